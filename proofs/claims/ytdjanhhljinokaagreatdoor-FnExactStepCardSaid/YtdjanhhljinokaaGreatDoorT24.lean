/- Part of the proof: Sh5. -/
import Derived.Test.YtdjanhhljinokaaGreatDoorT23
import Derived.Test.YtdjanhhljinokaaGreatDoorT18
set_option linter.unusedVariables false
set_option linter.unusedSimpArgs false
namespace Go.Pm
attribute [local irreducible] AR Ok inBlock andThen endQ aoper
set_option maxHeartbeats 4000000
open Go.Proofs
theorem J8l {cs:List Cls} {oth fin:List (List Int)} {Z:List Int} {k:Nat} {c:Cls} (hk:cs[k]? = some c) (hnl:(nmsC c).length≤1048576) {σ:MS} {m:Nat} (hσ:okMS m σ) (hmem:c.mems.length≤m) {l:List Itm} (hg:GoodM c l) {n:Int} {i v hv s hs:Nat} (hiv:i≠v) (his:i≠s) (hvs:v≠s) {τ:St}
  (h0:τ.obj i=some (runV cs (planD cs oth fin Z) k c v hv (nmsC c).length s hs σ.M.length n)) (h1:τ.obj v=some (.row hv 3 1 (im2 eNum (vals c σ.F)))) (h3:τ.obj s=some (.row hs 3 1 (im2 eNum σ.M))):
  AFun X 156 [.ref i 0,.d (.im (l.map eItm)),vi (l.length:Int)] τ fun E σ'=>E=.ret (vi (codeV σ l))∧σ'=τ:=by
 obtain⟨g1,g2,g3,g4,g5,g6⟩:=hg
 have hx:=JbW cs oth fin Z k c hk hnl σ.F σ.M n (by rw[hσ.1];exact hmem) hσ.2.1 hσ.2.2.1 l (by omega) _ (tmI l) (Nat.le_refl _) g4 (fun x hx=>g6 x (by rw[←g5];exact hx)) [] [] (by rw[g5];simp)
 rw[g5,List.length_nil,Nat.zero_add]at hx
 refine AFun.wfr hx.1 fun wf1 wf2=>?_
 have bi:=wf1 _ _ h0
 have bv:=wf1 _ _ h1
 have bs:=wf1 _ _ h3
 have bhv:=wf2 _ _ _ _ _ h1
 have bhs:=wf2 _ _ _ _ _ h3
 let π:Nat→Nat:=fun j=>if j=0 then i else if j=1 then v else if j=2 then hv else if j=3 then s else hs
 have one:∀(j:Nat) (o:AO),((rnO cs (planD cs oth fin Z) k c σ.F σ.M n)[j]?).join=some o→(j=0∧o=runV cs (planD cs oth fin Z) k c 1 2 (nmsC c).length 3 4 σ.M.length n)∨(j=1∧o=.row 2 3 1 (im2 eNum (vals c σ.F)))∨(j=3∧o=.row 4 3 1 (im2 eNum σ.M)):=fun j o h=>by
  unfold rnO at h
  match j,h with
  |0,h=>cases h;exact .inl ⟨rfl,rfl⟩
  |1,h=>cases h;exact .inr (.inl ⟨rfl,rfl⟩)
  |2,h=>cases h
  |3,h=>cases h;exact .inr (.inr ⟨rfl,rfl⟩)
  |4,h=>cases h
  |j+5,h=>simp at h
 have:=AFun.ro (hx.mono fun E σ' ⟨h1,h2⟩=>⟨h1,fun j _=>by rw[h2]⟩) (fun j o ho=>(J4Z ho).2) rfl rfl π (fun a b o o' ha hb he=>by
  rcases one a o ha with⟨rfl,_⟩|⟨rfl,_⟩|⟨rfl,_⟩<;>rcases one b o' hb with⟨rfl,_⟩|⟨rfl,_⟩|⟨rfl,_⟩
  ·rfl
  ·exact absurd he hiv
  ·exact absurd he his
  ·exact absurd he.symm hiv
  ·rfl
  ·exact absurd he hvs
  ·exact absurd he.symm his
  ·exact absurd he.symm hvs
  ·rfl) (σ:=τ) (fun j hj=>by
  show(if j=0 then i else if j=1 then v else if j=2 then hv else if j=3 then s else hs)<τ.next
  split
  ·exact bi
  split
  ·exact bv
  split
  ·exact bhv
  split
  ·exact bs
  ·exact bhs) (fun j o hj=>by
  rcases one j o hj with⟨rfl,rfl⟩|⟨rfl,rfl⟩|⟨rfl,rfl⟩
  ·rw[J4r];exact h0
  ·exact h1.trans (Jd rfl (Jg _ _ _))
  ·exact h3.trans (Jd rfl (Jg _ _ _)))
 exact this
inductive SpellP (O E:List Int):Nat→List Sm→List Br→Prop
 |nil (i:Nat):SpellP O E i [] []
 |leaf {i:Nat} {s:Sm} {l:List Sm} {R:List Br} (h4:s.kind≠4) (h5:s.kind≠5) (h6:s.kind≠6) (h:SpellP O E (i+1) l R):SpellP O E i (s::l) (.nd s [] []::R)
 |cond {i:Nat} {s e f:Sm} {y n l:List Sm} {Y N R:List Br} (h4:s.kind=4) (h5:e.kind=5) (h6:f.kind=6) (hO:O[i]? = some ((i+1+y.length:Nat):Int)) (hE:E[i]? = some ((i+1+y.length+1+n.length:Nat):Int))
   (hy:SpellP O E (i+1) y Y) (hn:SpellP O E (i+1+y.length+1) n N) (h:SpellP O E (i+1+y.length+1+n.length+1) l R):SpellP O E i (s::(y++e::(n++f::l))) (.nd s Y N::R)
def planGo:Nat→List Sm→List Int→List Int→List Int→List Int×List Int
 |_,[],_,O,E=>(O,E)
 |i,s::l,st,O,E=>
  if s.kind=4 then planGo (i+1) l (st++[(i:Int)]) O E
  else if s.kind=5 then planGo (i+1) l st (O.set (st.getLast?.getD 0).toNat (i:Int)) E
  else if s.kind=6 then planGo (i+1) l st.dropLast O (E.set (st.getLast?.getD 0).toNat (i:Int))
  else planGo (i+1) l st O E
def same (A B:List Int) (P:Nat→Prop):Prop:=A.length=B.length∧∀j,P j→A[j]? = B[j]?
theorem J2U {O E O' E':List Int} {i:Nat} {l:List Sm} {T:List Br} (h:SpellP O E i l T):(∀j,i≤j→j<i+l.length→O'[j]? = O[j]?∧E'[j]? = E[j]?)→SpellP O' E' i l T:=by
 induction h with
 |nil i=>intro _;exact .nil i
 |leaf h4 h5 h6 h ih=>
  intro hc
  exact .leaf h4 h5 h6 (ih fun j h1 h2=>hc j (by omega) (by simp only[List.length_cons];omega))
 |@cond i s e f y n l Y N R h4 h5 h6 hO hE hy hn h ihy ihn ih=>
  intro hc
  simp only[List.length_cons,List.length_append]at hc
  have h0:=hc i (Nat.le_refl _) (by omega)
  exact .cond h4 h5 h6 (by rw[h0.1];exact hO) (by rw[h0.2];exact hE) (ihy fun j h1 h2=>hc j (by omega) (by omega)) (ihn fun j h1 h2=>hc j (by omega) (by omega)) (ih fun j h1 h2=>hc j (by omega) (by omega))
theorem J7P {l:List Sm} {T:List Br} (h:Spell l T):∀(i:Nat) (r:List Sm) (st O E:List Int),i+l.length≤O.length→E.length=O.length→
  ∃O' E',planGo i (l++r) st O E=planGo (i+l.length) r st O' E'∧O'.length=O.length∧E'.length=E.length∧(∀j,(j<i∨i+l.length≤j)→O'[j]? = O[j]?∧E'[j]? = E[j]?)∧SpellP O' E' i l T:=by
 induction h with
 |nil=>intro i r st O E _ _;exact⟨O,E,rfl,rfl,rfl,fun j _=>⟨rfl,rfl⟩,.nil i⟩
 |@leaf s l R h4 h5 h6 h ih=>
  intro i r st O E hl hE
  simp only[List.length_cons]at hl
  obtain⟨O',E',e1,e2,e3,e4,e5⟩:=ih (i+1) r st O E (by omega) hE
  refine⟨O',E',?_,e2,e3,fun j hj=>e4 j (by simp only[List.length_cons]at hj;omega),.leaf h4 h5 h6 e5⟩
  simp only[List.cons_append,planGo]
  rw[if_neg h4,if_neg h5,if_neg h6,e1,List.length_cons]
  congr 1;omega
 |@cond s e f y n l Y N R h4 h5 h6 hy hn h ihy ihn ih=>
  intro i r st O E hl hE
  simp only[List.length_cons,List.length_append]at hl
  obtain⟨O1,E1,a1,a2,a3,a4,a5⟩:=ihy (i+1) (e::(n++f::(l++r))) (st++[(i:Int)]) O E (by omega) hE
  obtain⟨O2,hO2⟩:∃O2,O2=O1.set i ((i+1+y.length:Nat):Int):=⟨_,rfl⟩
  obtain⟨O3,E3,b1,b2,b3,b4,b5⟩:=ihn (i+1+y.length+1) (f::(l++r)) (st++[(i:Int)]) O2 E1 (by rw[hO2,List.length_set];omega) (by rw[hO2,List.length_set];omega)
  obtain⟨E4,hE4⟩:∃E4,E4=E3.set i ((i+1+y.length+1+n.length:Nat):Int):=⟨_,rfl⟩
  have hO2l:O2.length=O1.length:=by rw[hO2,List.length_set]
  have hE4l:E4.length=E3.length:=by rw[hE4,List.length_set]
  obtain⟨O5,E5,c1,c2,c3,c4,c5⟩:=ih (i+1+y.length+1+n.length+1) r st O3 E4 (by omega) (by omega)
  have hO2n:∀j,j≠i→O2[j]? = O1[j]?:=fun j hj=>by rw[hO2,List.getElem?_set,if_neg (Ne.symm hj)]
  have hE4n:∀j,j≠i→E4[j]? = E3[j]?:=fun j hj=>by rw[hE4,List.getElem?_set,if_neg (Ne.symm hj)]
  have hOi:O5[i]? = some ((i+1+y.length:Nat):Int):=by
   rw[(c4 i (by omega)).1,(b4 i (by omega)).1,hO2,List.getElem?_set,if_pos rfl,if_pos (by omega)]
  have hEi:E5[i]? = some ((i+1+y.length+1+n.length:Nat):Int):=by
   rw[(c4 i (by omega)).2,hE4,List.getElem?_set,if_pos rfl,if_pos (by omega)]
  have lastI:((st++[(i:Int)]).getLast?.getD 0).toNat=i:=by simp
  refine⟨O5,E5,?_,by omega,by omega,fun j hj=>?_,?_⟩
  ·have q1:(s::(y++e::(n++f::l)))++r=s::(y++(e::(n++f::(l++r)))):=by simp
   rw[q1]
   simp only[planGo]
   rw[if_pos h4,a1]
   simp only[planGo]
   rw[if_neg (by omega),if_pos h5,lastI,←hO2,b1]
   simp only[planGo]
   rw[if_neg (by omega),if_neg (by omega),if_pos h6,lastI,List.dropLast_concat,←hE4,c1]
   congr 1
   simp only[List.length_cons,List.length_append];omega
  ·simp only[List.length_cons,List.length_append]at hj
   have hji:j≠i:=by omega
   rw[(c4 j (by omega)).1,(c4 j (by omega)).2,(b4 j (by omega)).1,hE4n j hji,(b4 j (by omega)).2,hO2n j hji,(a4 j (by omega)).1,(a4 j (by omega)).2]
   exact⟨rfl,rfl⟩
  ·refine .cond h4 h5 h6 hOi hEi (J2U a5 fun j h1 h2=>?_) (J2U b5 fun j h1 h2=>?_) c5
   ·have hji:j≠i:=by omega
    rw[(c4 j (by omega)).1,(c4 j (by omega)).2,(b4 j (by omega)).1,hE4n j hji,(b4 j (by omega)).2,hO2n j hji]
    exact⟨rfl,rfl⟩
   ·have hji:j≠i:=by omega
    rw[(c4 j (by omega)).1,(c4 j (by omega)).2,hE4n j hji]
    exact⟨rfl,rfl⟩
def zerosI (n:Nat):List Int:=List.replicate n 0
def planL (l:List Sm):List Int×List Int:=planGo 0 l [] (zerosI l.length) (zerosI l.length)
theorem Jao {l:List Sm} {T:List Br} (h:Spell l T):SpellP (planL l).1 (planL l).2 0 l T:=by
 obtain⟨O',E',e1,_,_,_,e5⟩:=J7P h 0 [] [] (zerosI l.length) (zerosI l.length) (by simp[zerosI]) rfl
 rw[List.append_nil]at e1
 unfold planL
 rw[e1]
 exact e5
end Go.Pm
/- Part of the proof: Sh6. -/
namespace Go.Pm
attribute [local irreducible] AR Ok inBlock andThen endQ aoper
set_option maxHeartbeats 8000000
open Go.Proofs
def okNm (c:Cls) (s:Sm):Prop:=(s.kind=1→s.name∈nmsC c)∧(s.kind=4→s.name∈nmsC c)∧(s.kind=3→∀x∈s.outs,x∈nmsC c)
mutual
def nmB (c:Cls):Br→Prop
 |.nd s y n=>okNm c s∧nmL c y∧nmL c n
def nmL (c:Cls):List Br→Prop
 |[]=>True
 |b::l=>nmB c b∧nmL c l
end
def WalkC (cs ds:List Cls) (pl:D) (Z:List Int) (call:CallF):Prop:=∀(g:Nat) (d:Cls) (z:Nat) (S I:List Int),ds[g]? = some d→Z[g]? = some (z:Int)→S.length=z→I.length=d.ins.length→(∀v∈S,inR v)→(∀v∈I,inR v)→(call g S I).2.2≤1099511627776→
 PFun X 67 [.agg [.d (.im (cs.map eCls))],.d pl,vi (g:Int),.d (.im (S.map eNum)),.d (.im (I.map eNum))] (.tup [.d (.im ((call g S I).1.map eNum)),.d (.im ((call g S I).2.1.map eNum)),vi (call g S I).2.2])
theorem J7h {Z:List Int} {c:Cls} {i g z:Nat} (hg:c.insts[i]? = some (g:Int)) (hz:Z[g]? = some (z:Int)):fromZ Z c (i+1)=fromZ Z c i+z:=by
 unfold fromZ
 rw[JT hg,List.map_append,List.sum_append]
 have:(nth Z ((g:Int)).toNat).toNat=z:=by rw[Int.toNat_natCast,J1A hz,Int.toNat_natCast]
 simp only[List.map_cons,List.map_nil,List.sum_cons,List.sum_nil,this];omega
theorem Jbz {τ:St} {A B:List AV} {x y:AV} (h:Kz τ x y):OKz τ (.var (A++x::B)) (.var (A++y::B)):=by
 refine .var (by simp) fun j h1 h2=>?_
 by_cases e:j=A.length
 ·subst e
  rw[J2l,J2l];exact h
 ·rw[J7O A B x y e h1 h2];exact .same _
def KzL (τ:St) (env:Env):List (Nat×AV)→Prop
 |[]=>True
 |(k,v)::l=>Kz τ (env k) v∧KzL τ env l
theorem J7T {τ:St} {env:Env}:∀{L:List (Nat×AV)},KzL τ env L→∀t,Kz τ (env t) (envL L t)
 |[],_,t=>.fz (.any _)
 |(k,v)::l,h,t=>by
  simp only[envL]
  by_cases e:t=k
  ·subst e;rw[if_pos rfl];exact h.1
  ·rw[if_neg e];exact J7T h.2 t
theorem J3l {α:Type} {l r p:List α} {i:Nat} (h:l.drop i=p++r):l.drop (i+p.length)=r:=by
 rw[←List.drop_drop,h,List.drop_left]
theorem Jc2 (cs ds:List Cls) (oth fin:List (List Int)) (Z:List Int) (k:Nat) (c:Cls) (hk:cs[k]? = some c) (hnl:(nmsC c).length≤1048576) (hnd:(nmsC c).Nodup) (hbl:c.body.length≤1048576) (hil2:c.insts.length≤1048576) (O E:List Int) (hO:oth[k]? = some O) (hE:fin[k]? = some E) (m:Nat) (hm:c.mems.length≤m) (hm2:m≤1048576)
  (call:CallF) (hcall:∀g S I,0≤(call g S I).2.2) (hins:∀g∈c.insts,∃gn zn:Nat,g=(gn:Int)∧Z[gn]? = some (zn:Int)) (hfrm:∀i,i≤c.insts.length→fromZ Z c i≤m) (hpres:CallOK ds Z call) (hwalk:WalkC cs ds (planD cs oth fin Z) Z call):∀(N:Nat) (i0:Nat) (l0:List Sm) (T:List Br),l0.length≤N→SpellP O E i0 l0 T→∀Rr:List Sm,c.body.drop i0=l0++Rr→okL ds Z m c T→nmL c T→
  ∀σ0:MS,okMS m σ0→(exL call Z c T σ0).n≤1099511627776→
  AFun X 109 [.ref 0 0,vi (i0:Int),vi ((i0+l0.length:Nat):Int)] (stL (rnO cs (planD cs oth fin Z) k c σ0.F σ0.M σ0.n)) fun E σ'=>E=.ret (.tup [])∧σ'=stL (rnE cs (planD cs oth fin Z) k c (exL call Z c T σ0).F (exL call Z c T σ0).M (exL call Z c T σ0).n):=by
 intro N
 induction N using Nat.strongRecOn with
 |_ N ih=>
  intro i0 l0 T hN hsp0 Rr hb0 hok0 hnm0 σ0 hσ0 hcost
  obtain⟨to,hto⟩:∃to,to=i0+l0.length:=⟨_,rfl⟩
  rw[←hto]
  obtain⟨σe,hσe⟩:∃σe,σe=exL call Z c T σ0:=⟨_,rfl⟩
  rw[←hσe]at hcost ⊢
  refine Jw Tryz.func109 rfl (by decide) Tryz.ntmps109 Tryz.results109 (by simp) ?_
  unfold rnO
  repeat' first|refine J5 ?_
  refine JX (ι:=Nat×List Sm×List Br×MS) (fun x_=>envL [(0,.ref 0 0),(1,vi (x_.1:Int)),(2,vi ((to:Nat):Int))]) (fun x_=>stL [some (runV cs (planD cs oth fin Z) k c 1 2 (nmsC c).length 5 6 x_.2.2.2.M.length x_.2.2.2.n),some (.row 2 3 1 (im2 eNum (vals c x_.2.2.2.F))),none,none,none,some (.row 6 3 1 (im2 eNum x_.2.2.2.M)),none]) (fun x_=>SpellP O E x_.1 x_.2.1 x_.2.2.1∧c.body.drop x_.1=x_.2.1++Rr∧x_.1+x_.2.1.length=to∧exL call Z c x_.2.2.1 x_.2.2.2=σe∧okL ds Z m c x_.2.2.1∧nmL c x_.2.2.1∧okMS m x_.2.2.2∧x_.2.1.length≤N) (fun x_=>x_.2.1.length) (i0,l0,T,σ0) (⟨hsp0,hb0,hto.symm,hσe.symm,hok0,hnm0,hσ0,hN⟩) Turn.refl (Js [(5,3),(6,4)] rfl rfl rfl ⟨⟨rfl,rfl⟩,⟨rfl,rfl⟩,⟨rfl,rfl⟩,trivial⟩ ⟨⟨rfl,rfl⟩,⟨Jd rfl (by first|exact Jg _ _ _|rfl),Je rfl,Jc _ _ _⟩,⟨Jd rfl (by first|exact Jg _ _ _|rfl),Je rfl,Jc _ _ _⟩,trivial⟩) ?_
  rintro⟨i,l,U,σ⟩ ⟨i1,i2,i3,i4,i5,i6,i7,i8⟩
  simp only at i1 i2 i3 i4 i5 i6 i7 i8
  show Ok _ _ _ _ (envL [(0,.ref 0 0),(1,vi (i:Int)),(2,vi ((to:Nat):Int))]) (stL [some (runV cs (planD cs oth fin Z) k c 1 2 (nmsC c).length 5 6 σ.M.length σ.n),some (.row 2 3 1 (im2 eNum (vals c σ.F))),none,none,none,some (.row 6 3 1 (im2 eNum σ.M)),none])
  cases i1 with
  |nil=>
   have ei:decide ((i:Int)<(to:Int))=false:=J1 (by simp only[List.length_nil]at i3;omega)
   simp only[exL]at i4
   subst i4
   repeat' first|refine Z1 ?_|refine Z2 ?_|refine Zo ?_|refine J6 ?_|refine Zq ?_|refine Jh ?_|refine Ja ?_|refine Zv ?_
   exact nrm0 ⟨rfl,rfl⟩
  |@leaf _ s l R h4 h5 h6 h=>
   simp only[List.length_cons]at i3 i8
   have ei:decide ((i:Int)<(to:Int))=true:=J0 (by omega)
   have hx:c.body[i]? = some s:=by have:=congrArg (fun q=>q[0]?) i2;simpa using this
   have hdr:c.body.drop (i+1)=l++Rr:=by have:=congrArg (fun q=>q.drop 1) i2;simpa[List.drop_drop,Nat.add_comm]using this
   have hil:i<c.body.length:=(List.getElem?_eq_some_iff.1 hx).1
   have hlc:(s::l).length=l.length+1:=rfl
   simp only[exL,exB]at i4
   rw[if_neg h4]at i4
   simp only[okL,okB]at i5
   obtain⟨⟨⟨g1,g2,g3⟩,_,_⟩,i5⟩:=i5
   simp only[nmL,nmB]at i6
   obtain⟨⟨⟨m1,m2,m3⟩,_,_⟩,i6⟩:=i6
   obtain⟨s1,s2,s3,s4⟩:=i7
   have hn2:=J20 hcall Z c R (exS call Z c s {σ with n:=σ.n+1})
   rw[i4]at hn2
   have hσ1:okMS m {σ with n:=σ.n+1}:=⟨s1,s2,s3,by show 0≤σ.n+1;omega⟩
   have d4:decide (s.kind=4)=false:=J1 h4
   unfold exS at i4 hn2
   by_cases k1:s.kind=1
   ·have d1:decide (s.kind=1)=true:=J0 k1
    rw[if_pos k1]at i4 hn2
    have hnb:σ.n+1≤1099511627776:=by dsimp only at hn2;omega
    have hg:=g1 k1
    have hr:=J0a hg hσ1
    repeat' first|refine Z1 ?_|refine Z2 ?_|refine Z5 ?_|refine Ju ?_|refine Ze ?_|refine Zf ?_|refine Zo ?_|refine J6 ?_|refine Zp ?_|refine J5 ?_|refine J8 ?_|refine J3 ?_
    refine Jv (fun _=>True) [10] Jp (by decide +kernel) ?_
    repeat' first|refine Wl (i:=7) rfl trivial ?_|refine Wa ?_
    refine Wq (fun τ _=>Zd ⟨rfl,rfl⟩) ?_
    refine Wq (fun τ h=>Ym (J8l hk hnl hσ1 hm hg (n:=σ.n+1) (i:=0) (v:=1) (hv:=2) (s:=5) (hs:=6) (by decide) (by decide) (by decide) ((h 0 trivial).trans rfl) ((h 1 trivial).trans rfl) ((h 5 trivial).trans rfl)) ⟨rfl,rfl⟩) ?_
    refine We (Ym (J8H hk hnl hnd (F:=σ.F) (i:=0) (v:=1) (hv:=2) (s:=5) (hs:=6) (ns:=σ.M.length) (n:=σ.n+1) (m1 k1) _ rfl rfl) ⟨rfl,rfl⟩) (.inl rfl) ?_
    refine Wy ?_
    repeat' first|refine Z1 ?_|refine Z3 ?_|refine Z5 ?_|refine Zf ?_|refine Jf ?_|refine J3 ?_|refine J4 ?_
    exact⟨(i+1,l,R,{σ with n:=σ.n+1,F:=sput σ.F s.name (codeV {σ with n:=σ.n+1} s.code)}),⟨h,hdr,by simp only;omega,i4,i5,i6,⟨s1,J4d s2 hr,s3,by show 0≤σ.n+1;omega⟩,by simp only;omega⟩,by(try simp only);omega,Js [(5,5)] rfl rfl rfl ⟨⟨rfl,rfl⟩,⟨rfl,rfl⟩,⟨rfl,rfl⟩,trivial⟩ ⟨⟨rfl,rfl⟩,⟨Jd rfl (by first|exact Jg _ _ _|rfl),Je rfl,Jc _ _ _⟩,⟨Jd rfl (by first|exact Jg _ _ _|rfl),Je rfl,Jc _ _ _⟩,trivial⟩⟩
   have d1:decide (s.kind=1)=false:=J1 k1
   rw[if_neg k1]at i4 hn2
   by_cases k2:s.kind=2
   ·have d2:decide (s.kind=2)=true:=J0 k2
    rw[if_pos k2]at i4 hn2
    obtain⟨hg,p0,p1⟩:=g2 k2
    have hnb:σ.n+1≤1099511627776:=by dsimp only at hn2;omega
    have hr:=J0a hg hσ1
    obtain⟨p,hp⟩:∃p:Nat,s.pos=(p:Int):=⟨s.pos.toNat,by omega⟩
    rw[hp,Int.toNat_natCast]at i4
    have hpm:p<σ.M.length:=by omega
    have hMs:∀v∈σ.M.set p (codeV {σ with n:=σ.n+1} s.code),inR v:=fun v hv=>by
     rcases List.mem_or_eq_of_mem_set hv with h|h
     ·exact s3 v h
     ·rw[h];exact hr
    have hsl:(σ.M.set p (codeV {σ with n:=σ.n+1} s.code)).length=σ.M.length:=List.length_set
    repeat' first|refine Z1 ?_|refine Z2 ?_|refine Z5 ?_|refine Ju ?_|refine Ze ?_|refine Zf ?_|refine Zo ?_|refine J6 ?_|refine Zp ?_|refine Zq ?_|refine J5 ?_|refine J8 ?_|refine J3 ?_
    refine Jv (fun _=>True) [14] Jp (by decide +kernel) ?_
    repeat' first|refine Wl (i:=7) rfl trivial ?_|refine Wl (i:=0) rfl trivial ?_|refine Wa ?_|refine Wn ?_
    refine Wq (fun τ _=>Zd ⟨rfl,rfl⟩) ?_
    refine Wq (fun τ h=>Ym (J8l hk hnl hσ1 hm hg (n:=σ.n+1) (i:=0) (v:=1) (hv:=2) (s:=5) (hs:=6) (by decide) (by decide) (by decide) ((h 0 trivial).trans rfl) ((h 1 trivial).trans rfl) ((h 5 trivial).trans rfl)) ⟨rfl,rfl⟩) ?_
    refine Wq (fun τ h=>Yi1 (i:=5) p ((h 5 trivial).trans rfl) hp hpm ⟨rfl,rfl⟩) ?_
    refine We (J4t (e:=eNum) (l:=σ.M) (y:=codeV {σ with n:=σ.n+1} s.code) hpm (fun _=>rfl) rfl rfl rfl rfl rfl ⟨rfl,rfl⟩) (.inl rfl) ?_
    refine Wy ?_
    rw[←hsl]
    repeat' first|refine Z1 ?_|refine Z3 ?_|refine Z5 ?_|refine Zf ?_|refine Jf ?_|refine J3 ?_|refine J4 ?_
    exact⟨(i+1,l,R,{σ with n:=σ.n+1,M:=σ.M.set p (codeV {σ with n:=σ.n+1} s.code)}),⟨h,hdr,by simp only;omega,i4,i5,i6,⟨by rw[hsl];exact s1,s2,hMs,by show 0≤σ.n+1;omega⟩,by simp only;omega⟩,by(try simp only);omega,Js [(5,5)] rfl rfl rfl ⟨⟨rfl,rfl⟩,⟨rfl,rfl⟩,⟨rfl,rfl⟩,trivial⟩ ⟨⟨rfl,rfl⟩,⟨Jd rfl (by first|exact Jg _ _ _|rfl),Je rfl,Jc _ _ _⟩,⟨Jd rfl (by first|exact Jg _ _ _|rfl),Je rfl,Jc _ _ _⟩,trivial⟩⟩
   have d2:decide (s.kind=2)=false:=J1 k2
   rw[if_neg k2]at i4 hn2
   by_cases k3:s.kind=3
   ·have d3:decide (s.kind=3)=true:=J0 k3
    rw[if_pos k3]at i4 hn2
    obtain⟨c1,c2,c3,p,g,z,d,hp,hg,hdd,hz,hfz,hal,hol⟩:=g3 k3
    have hnm3:=m3 k3
    rw[J1E (cs:=ds) hp hg hz]at i4 hn2
    dsimp only at hn2
    obtain⟨Rv,hRv⟩:∃Rv,Rv=call g ((σ.M.drop (fromZ Z c p)).take z) (s.args.map (codeV {σ with n:=σ.n+1})):=⟨_,rfl⟩
    have hSl:((σ.M.drop (fromZ Z c p)).take z).length=z:=by rw[List.length_take,List.length_drop];omega
    have hIr:∀v∈s.args.map (codeV {σ with n:=σ.n+1}),inR v:=fun v hv=>by
     obtain⟨a,ha,rfl⟩:=List.mem_map.1 hv
     exact J0a (c1 a ha) hσ1
    have hcst:=hcall g ((σ.M.drop (fromZ Z c p)).take z) (s.args.map (codeV {σ with n:=σ.n+1}))
    have hpr:=hpres g d z _ _ hdd hz hSl (by rw[List.length_map];exact hal) (fun v hv=>s3 v (List.mem_of_mem_drop (List.mem_of_mem_take hv))) hIr
    have hwk:=hwalk g d z _ _ hdd hz hSl (by rw[List.length_map];exact hal) (fun v hv=>s3 v (List.mem_of_mem_drop (List.mem_of_mem_take hv))) hIr (by omega)
    have hres:=J6G (cs:=ds) hcall hpres (g3 k3) (σ:={σ with n:=σ.n+1}) hσ1
    rw[J1E (cs:=ds) hp hg hz]at hres
    dsimp only at hres i4
    rw[←hRv]at hres i4 hn2 hcst hpr hwk
    obtain⟨q1,q2,q3,q4⟩:=hpr
    have hnb:σ.n+1≤1099511627776:=by omega
    have hpl:p<c.insts.length:=(List.getElem?_eq_some_iff.1 hg).1
    repeat' first|refine Z1 ?_|refine Z2 ?_|refine Z5 ?_|refine Ju ?_|refine Yw (sz:=1) (rows:=[]) (n:=8) ?_|refine Zd ?_|refine Ze ?_|refine Zf ?_|refine Zo ?_|refine J6 ?_|refine Zp ?_|refine Zq ?_|refine J5 ?_|refine J8 ?_|refine J3 ?_
    refine JX (ι:=Nat×List Int) (fun x_=>envL [(0,.ref 0 0),(1,vi (i:Int)),(2,vi ((to:Nat):Int)),(6,.ref 7 0),(9,.sl 9 10 0 x_.2.length),(125,.d (.im (s.args.map eItms))),(126,vi s.args.length),(127,vi x_.1)]) (fun x_=>stL [some (runV cs (planD cs oth fin Z) k c 1 2 (nmsC c).length 5 6 σ.M.length (σ.n+1)),some (.row 2 3 1 (im2 eNum (vals c σ.F))),none,none,none,some (.row 6 3 1 (im2 eNum σ.M)),none,some (.var ((eSm s).map .d)),none,some (.row 10 3 1 (im2 eNum x_.2)),none]) (fun x_=>x_.1≤s.args.length∧x_.2=(s.args.take x_.1).map (codeV {σ with n:=σ.n+1})) (fun x_=>s.args.length-x_.1) (0,[]) (⟨Nat.zero_le _,rfl⟩) Turn.refl (Js [(9,8),(10,8)] rfl rfl rfl ⟨⟨rfl,rfl⟩,⟨rfl,rfl⟩,⟨rfl,rfl⟩,⟨rfl,rfl⟩,⟨rfl,rfl⟩,⟨rfl,rfl⟩,⟨rfl,rfl⟩,⟨rfl,rfl⟩,trivial⟩ ⟨⟨rfl,rfl⟩,⟨Jd rfl (by first|exact Jg _ _ _|rfl),Je rfl,Jc _ _ _⟩,⟨Jd rfl (by first|exact Jg _ _ _|rfl),Je rfl,Jc _ _ _⟩,⟨rfl,rfl⟩,⟨Jd rfl (by first|exact Jg _ _ _|rfl),Je rfl,Jc _ _ _⟩,trivial⟩) ?_
    rintro⟨j,r⟩ ⟨j1,j2⟩
    simp only at j1 j2
    show Ok _ _ _ _ (envL [(0,.ref 0 0),(1,vi (i:Int)),(2,vi ((to:Nat):Int)),(6,.ref 7 0),(9,.sl 9 10 0 r.length),(125,.d (.im (s.args.map eItms))),(126,vi s.args.length),(127,vi j)]) (stL [some (runV cs (planD cs oth fin Z) k c 1 2 (nmsC c).length 5 6 σ.M.length (σ.n+1)),some (.row 2 3 1 (im2 eNum (vals c σ.F))),none,none,none,some (.row 6 3 1 (im2 eNum σ.M)),none,some (.var ((eSm s).map .d)),none,some (.row 10 3 1 (im2 eNum r)),none])
    have hrl:r.length=j:=by rw[j2,List.length_map,List.length_take];omega
    rcases hya:s.args[j]? with _|a
    rotate_left
    ·have hlt2:j<s.args.length:=(List.getElem?_eq_some_iff.1 hya).1
     have ej:decide ((j:Int)<(s.args.length:Int))=true:=J0 (by omega)
     have hgm:=c1 a (List.mem_of_getElem? hya)
     have hxa:=fun(τ:St) q0 q1 q5=>J8l hk hnl hσ1 hm hgm (oth:=oth) (fin:=fin) (Z:=Z) (n:=σ.n+1) (i:=0) (v:=1) (hv:=2) (s:=5) (hs:=6) (by decide) (by decide) (by decide) (τ:=τ) q0 q1 q5
     repeat' first|refine Z1 ?_|refine Z2 ?_|refine Z3 ?_|refine Z4 ?_|refine Z5 ?_|refine Ym (hxa _ rfl rfl rfl) ?_|refine Yl (e:=eNum) (l:=r) [codeV {σ with n:=σ.n+1} a] ?_|refine Zd ?_|refine Ze ?_|refine Zf ?_|refine Zo ?_|refine J6 ?_|refine Jf ?_|refine Zp ?_|refine J5 ?_|refine J8 ?_|refine J3 ?_|refine J4 ?_
     exact⟨(j+1,r++[codeV {σ with n:=σ.n+1} a]),⟨hlt2,by rw[j2,JT hya,List.map_append];rfl⟩,by(try simp only);omega,Js [(10,12)] rfl rfl rfl ⟨⟨rfl,rfl⟩,⟨rfl,rfl⟩,⟨rfl,rfl⟩,⟨rfl,rfl⟩,⟨rfl,rfl⟩,⟨rfl,rfl⟩,⟨rfl,rfl⟩,⟨rfl,rfl⟩,trivial⟩ ⟨⟨rfl,rfl⟩,⟨Jd rfl (by first|exact Jg _ _ _|rfl),Je rfl,Jc _ _ _⟩,⟨Jd rfl (by first|exact Jg _ _ _|rfl),Je rfl,Jc _ _ _⟩,⟨rfl,rfl⟩,⟨Jd rfl (by first|exact Jg _ _ _|rfl),Je rfl,Jc _ _ _⟩,trivial⟩⟩
    have hge:=Jo hya
    have ej:decide ((j:Int)<(s.args.length:Int))=false:=J1 (by omega)
    have hr:r=s.args.map (codeV {σ with n:=σ.n+1}):=by rw[j2,List.take_of_length_le hge]
    subst hr
    have hm0:((c.mems.length:Nat):Int)=((fromZ Z c 0:Nat):Int):=by unfold fromZ;simp
    repeat' first|refine Z1 ?_|refine Z2 ?_|refine Z5 ?_|refine Ju ?_|refine Zd ?_|refine Zo ?_|refine J6 ?_|refine Zq ?_|refine J5 ?_|refine Jh ?_|refine J3 ?_|refine Ja ?_|refine Zv ?_
    rw[hm0]
    refine JX (ι:=Nat) (fun x=>envL [(0,.ref 0 0),(1,vi (i:Int)),(2,vi ((to:Nat):Int)),(6,.ref 7 0),(9,.sl 9 10 0 (s.args.map (codeV {σ with n:=σ.n+1})).length),(12,vi ((fromZ Z c x:Nat):Int)),(13,vi x)]) (fun x=>stL [some (runV cs (planD cs oth fin Z) k c 1 2 (nmsC c).length 5 6 σ.M.length (σ.n+1)),some (.row 2 3 1 (im2 eNum (vals c σ.F))),none,none,none,some (.row 6 3 1 (im2 eNum σ.M)),none,some (.var ((eSm s).map .d)),none,some (.row 10 3 1 (im2 eNum (s.args.map (codeV {σ with n:=σ.n+1})))),none]) (fun x=>x≤p) (fun x=>p-x) 0 (Nat.zero_le _) Turn.refl (Js [(11,11)] rfl rfl rfl ⟨⟨rfl,rfl⟩,⟨rfl,rfl⟩,⟨rfl,rfl⟩,⟨rfl,rfl⟩,⟨rfl,rfl⟩,⟨rfl,rfl⟩,⟨rfl,rfl⟩,trivial⟩ ⟨⟨rfl,rfl⟩,⟨Jd rfl (by first|exact Jg _ _ _|rfl),Je rfl,Jc _ _ _⟩,⟨Jd rfl (by first|exact Jg _ _ _|rfl),Je rfl,Jc _ _ _⟩,⟨rfl,rfl⟩,⟨Jd rfl (by first|exact Jg _ _ _|rfl),Je rfl,Jc _ _ _⟩,trivial⟩) ?_
    rintro j j1
    by_cases hjp:j<p
    ·have ej:decide ((j:Int)<s.pos)=true:=J0 (by omega)
     obtain⟨gg,hgg⟩:∃gg,c.insts[j]? = some gg:=⟨_,List.getElem?_eq_getElem (by omega)⟩
     obtain⟨gn,zn,e1,e2⟩:=hins gg (List.mem_of_getElem? hgg)
     subst e1
     have hsu:=J7h hgg e2
     have hfb:=hfrm (j+1) (by omega)
     have hsum:((fromZ Z c j:Nat):Int)+(zn:Int)=((fromZ Z c (j+1):Nat):Int):=by omega
     repeat' first|refine Z1 ?_|refine Z2 ?_|refine Zo ?_|refine J6 ?_|refine Zp ?_|refine J5 ?_|refine J8 ?_|refine J3 ?_
     refine Jv (fun _=>True) [] Jp (by decide +kernel) ?_
     repeat' first|refine Wl (i:=0) rfl trivial ?_|refine Wa ?_|refine Wn ?_
     refine Wq (fun τ _=>Yej (e:=eNum) (l:=c.insts) j rfl hgg ⟨rfl,rfl⟩) ?_
     repeat' first|refine Wa ?_
     refine Wq (fun τ _=>Yej (e:=eNum) (l:=Z) gn rfl e2 ⟨rfl,rfl⟩) ?_
     repeat' first|refine Wa ?_
     refine Wq (fun τ _=>Zf ⟨rfl,rfl⟩) ?_
     refine Wa ?_
     rw[hsum]
     refine Wy ?_
     repeat' first|refine Z1 ?_|refine Z2 ?_|refine Z5 ?_|refine Zf ?_|refine Jf ?_|refine J3 ?_|refine J4 ?_
     exact⟨j+1,hjp,by(try simp only);omega,Js [(11,11)] rfl rfl rfl ⟨⟨rfl,rfl⟩,⟨rfl,rfl⟩,⟨rfl,rfl⟩,⟨rfl,rfl⟩,⟨rfl,rfl⟩,⟨rfl,rfl⟩,⟨rfl,rfl⟩,trivial⟩ ⟨⟨rfl,rfl⟩,⟨Jd rfl (by first|exact Jg _ _ _|rfl),Je rfl,Jc _ _ _⟩,⟨Jd rfl (by first|exact Jg _ _ _|rfl),Je rfl,Jc _ _ _⟩,⟨rfl,rfl⟩,⟨Jd rfl (by first|exact Jg _ _ _|rfl),Je rfl,Jc _ _ _⟩,trivial⟩⟩
    have hjp2:j=p:=by omega
    subst hjp2
    have ej:decide ((j:Int)<s.pos)=false:=J1 (by omega)
    have hsum:((fromZ Z c j:Nat):Int)+(z:Int)=((fromZ Z c j+z:Nat):Int):=by omega
    repeat' first|refine Z1 ?_|refine Z2 ?_|refine Zo ?_|refine J6 ?_|refine Zq ?_|refine Jh ?_|refine J3 ?_|refine Ja ?_|refine Zv ?_
    refine Jv (fun _=>True) [] Jp (by decide +kernel) ?_
    repeat' first|refine Wl (i:=0) rfl trivial ?_|refine Wl (i:=7) rfl trivial ?_|refine Wa ?_|refine Wn ?_
    refine Wq (fun τ _=>Yej (e:=eNum) (l:=c.insts) j hp hg ⟨rfl,rfl⟩) ?_
    repeat' first|refine Wa ?_
    refine Wy ?_
    repeat' first|refine Z1 ?_|refine Z2 ?_|refine Z5 ?_|refine Ju ?_|refine Yej (e:=eNum) (l:=Z) g rfl hz ?_|refine Zf ?_|refine Zo ?_|refine J6 ?_|refine J3 ?_
    rw[hsum]
    refine JC (J4K (env':=envL [(0,.ref 0 0),(1,vi (i:Int)),(2,vi ((to:Nat):Int)),(6,.ref 7 0),(9,.d (.im ((s.args.map (codeV {σ with n:=σ.n+1})).map eNum))),(12,vi ((fromZ Z c j:Nat):Int)),(14,vi (g:Int)),(15,vi ((fromZ Z c j+z:Nat):Int))]) (σ':=stL [some (.var ([.d (.im (cs.map eCls)),.d (planD cs oth fin Z),vi k]++(eCls c).map .d++[.sl 1 2 0 (nmsC c).length,.d (.im (σ.M.map eNum)),vi (σ.n+1)])),some (.row 2 3 1 (im2 eNum (vals c σ.F))),none,none,none,none,none,some (.var ((eSm s).map .d)),none,none,none]) (fun j=>j == 5||j == 9) rfl (fun q o' h=>?_) fun t=>?_) ?_
    ·match q,h with
     |0,h=>
      obtain rfl:=Option.some.inj h
      refine⟨rfl,_,rfl,Jbz (A:=[.d (.im (cs.map eCls)),.d (planD cs oth fin Z),vi k]++(eCls c).map .d++[.sl 1 2 0 (nmsC c).length]) (B:=[vi (σ.n+1)]) (.fz (.data (J0j (e:=eNum) (l:=σ.M) (i:=5) (v:=6) (E:=3) (sz:=1) rfl rfl)))⟩
     |1,h=>obtain rfl:=Option.some.inj h;exact⟨rfl,_,rfl,.same _⟩
     |2,h=>cases h
     |3,h=>cases h
     |4,h=>cases h
     |5,h=>cases h
     |6,h=>cases h
     |7,h=>obtain rfl:=Option.some.inj h;exact⟨rfl,_,rfl,.same _⟩
     |8,h=>cases h
     |9,h=>cases h
     |10,h=>cases h
     |q+11,h=>simp[stL]at h
    ·refine J7T (L:=[(0,.ref 0 0),(1,vi (i:Int)),(2,vi ((to:Nat):Int)),(6,.ref 7 0),(9,.d (.im ((s.args.map (codeV {σ with n:=σ.n+1})).map eNum))),(12,vi ((fromZ Z c j:Nat):Int)),(14,vi (g:Int)),(15,vi ((fromZ Z c j+z:Nat):Int))]) ?_ t
     exact⟨.same _,.same _,.same _,.same _,.fz (.data (J0j (e:=eNum) (l:=(s.args.map (codeV {σ with n:=σ.n+1}))) (i:=9) (v:=10) (E:=3) (sz:=1) rfl rfl)),.same _,.same _,.same _,trivial⟩
    refine Jv (fun _=>True) [] Jp (by decide +kernel) ?_
    repeat' first|refine Wl (i:=0) rfl trivial ?_|refine Wa ?_|refine Wn ?_
    refine Wq (fun τ _=>Ysl (e:=eNum) (l:=σ.M) (fromZ Z c j) (fromZ Z c j+z) ((σ.M.drop (fromZ Z c j)).take z) (by rw[Nat.add_sub_cancel_left]) ⟨rfl,rfl⟩) ?_
    refine Wa ?_
    refine Wq (fun τ _=>Zc hwk ⟨rfl,rfl⟩) ?_
    repeat' first|refine Wa ?_
    refine Wy ?_
    have hl1:([]++σ.M.take (fromZ Z c j)).length=fromZ Z c j:=by rw[List.nil_append,List.length_take];omega
    have hl2:([]++σ.M.take (fromZ Z c j)++Rv.1).length=fromZ Z c j+z:=by rw[List.length_append,hl1,q1,hSl]
    have ht0:(σ.M.take (fromZ Z c j)).length=fromZ Z c j:=by rw[List.length_take];omega
    have ht1:Rv.1.length=z:=q1.trans hSl
    have hl3:(σ.M.drop (fromZ Z c j+z)).length≤1048576:=by rw[List.length_drop];omega
    repeat' first|refine Z1 ?_|refine Z2 ?_|refine Z5 ?_|refine Ju ?_|refine Yw (sz:=1) (rows:=[]) (n:=11) ?_|refine Yslh (e:=eNum) (l:=σ.M) (fromZ Z c j) (σ.M.take (fromZ Z c j)) rfl ?_|refine Ysll (e:=eNum) (l:=σ.M) (fromZ Z c j+z) (σ.M.drop (fromZ Z c j+z)) rfl ?_|refine Yl (e:=eNum) (l:=[]) (σ.M.take (fromZ Z c j)) ?_|refine Yl (e:=eNum) (l:=[]++σ.M.take (fromZ Z c j)) Rv.1 ?_|refine Yl (e:=eNum) (l:=[]++σ.M.take (fromZ Z c j)++Rv.1) (σ.M.drop (fromZ Z c j+z)) ?_|refine Zd ?_|refine Zf ?_|refine Zo ?_|refine J5 ?_|refine J3 ?_
    have hMM:[]++σ.M.take (fromZ Z c j)++Rv.1++σ.M.drop (fromZ Z c j+z)=(σ.M.take (fromZ Z c j)++(Rv.1++σ.M.drop (fromZ Z c j+z))):=by simp only[List.nil_append,List.append_assoc]
    rw[hMM]
    have hol2:Rv.2.1.length=s.outs.length:=by rw[q2,hol]
    refine JX (ι:=Nat×List (ByteArray×Int)) (fun x_=>envL [(0,.ref 0 0),(1,vi (i:Int)),(2,vi ((to:Nat):Int)),(17,.d (.im (Rv.2.1.map eNum))),(245,.d (.im (s.outs.map eStr))),(246,vi s.outs.length),(247,vi x_.1)]) (fun x_=>stL [some (runV cs (planD cs oth fin Z) k c 1 2 (nmsC c).length 15 16 (σ.M.take (fromZ Z c j)++(Rv.1++σ.M.drop (fromZ Z c j+z))).length (σ.n+1+Rv.2.2)),some (.row 2 3 1 (im2 eNum (vals c x_.2))),none,none,none,none,none,none,none,none,none,none,none,none,none,some (.row 16 3 1 (im2 eNum (σ.M.take (fromZ Z c j)++(Rv.1++σ.M.drop (fromZ Z c j+z))))),none]) (fun x_=>x_.1≤s.outs.length∧putAll x_.2 (s.outs.drop x_.1) (Rv.2.1.drop x_.1)=putAll σ.F s.outs Rv.2.1) (fun x_=>s.outs.length-x_.1) (0,σ.F) (⟨Nat.zero_le _,rfl⟩) Turn.refl (Js [(15,11),(16,14)] rfl rfl rfl ⟨⟨rfl,rfl⟩,⟨rfl,rfl⟩,⟨rfl,rfl⟩,⟨rfl,rfl⟩,⟨rfl,rfl⟩,⟨rfl,rfl⟩,⟨rfl,rfl⟩,trivial⟩ ⟨⟨rfl,rfl⟩,⟨Jd rfl (by first|exact Jg _ _ _|rfl),Je rfl,Jc _ _ _⟩,⟨Jd rfl (by first|exact Jg _ _ _|rfl),Je rfl,Jc _ _ _⟩,trivial⟩) ?_
    rintro⟨q,F⟩ ⟨j3,j2⟩
    simp only at j3 j2
    show Ok _ _ _ _ (envL [(0,.ref 0 0),(1,vi (i:Int)),(2,vi ((to:Nat):Int)),(17,.d (.im (Rv.2.1.map eNum))),(245,.d (.im (s.outs.map eStr))),(246,vi s.outs.length),(247,vi q)]) (stL [some (runV cs (planD cs oth fin Z) k c 1 2 (nmsC c).length 15 16 (σ.M.take (fromZ Z c j)++(Rv.1++σ.M.drop (fromZ Z c j+z))).length (σ.n+1+Rv.2.2)),some (.row 2 3 1 (im2 eNum (vals c F))),none,none,none,none,none,none,none,none,none,none,none,none,none,some (.row 16 3 1 (im2 eNum (σ.M.take (fromZ Z c j)++(Rv.1++σ.M.drop (fromZ Z c j+z))))),none])
    rcases hyo:s.outs[q]? with _|x
    ·have hge:=Jo hyo
     have ej:decide ((q:Int)<(s.outs.length:Int))=false:=J1 (by omega)
     have hF:F=putAll σ.F s.outs Rv.2.1:=by rw[←j2,List.drop_eq_nil_of_le hge];cases Rv.2.1.drop q<;>rfl
     subst hF
     repeat' first|refine Z1 ?_|refine Z2 ?_|refine Z3 ?_|refine Z5 ?_|refine Zf ?_|refine Zo ?_|refine J6 ?_|refine Jf ?_|refine Zq ?_|refine Jh ?_|refine J3 ?_|refine Ja ?_|refine Zv ?_|refine J4 ?_
     exact⟨(i+1,l,R,⟨putAll σ.F s.outs Rv.2.1,(σ.M.take (fromZ Z c j)++(Rv.1++σ.M.drop (fromZ Z c j+z))),σ.n+1+Rv.2.2⟩),⟨h,hdr,by simp only;omega,i4,i5,i6,hres,by simp only;omega⟩,by(try simp only);omega,Js [(5,15),(6,16)] rfl rfl rfl ⟨⟨rfl,rfl⟩,⟨rfl,rfl⟩,⟨rfl,rfl⟩,trivial⟩ ⟨⟨rfl,rfl⟩,⟨Jd rfl (by first|exact Jg _ _ _|rfl),Je rfl,Jc _ _ _⟩,⟨Jd rfl (by first|exact Jg _ _ _|rfl),Je rfl,Jc _ _ _⟩,trivial⟩⟩
    obtain⟨hd3,hlt3⟩:=Ji hyo
    have ej:decide ((q:Int)<(s.outs.length:Int))=true:=J0 (by omega)
    obtain⟨v,hv⟩:∃v,Rv.2.1[q]? = some v:=⟨_,List.getElem?_eq_getElem (by omega)⟩
    rw[hd3,(Ji hv).1]at j2
    simp only[putAll]at j2
    have hxm:=hnm3 x (List.mem_of_getElem? hyo)
    repeat' first|refine Z1 ?_|refine Z2 ?_|refine Z5 ?_|refine Yej (e:=eNum) (l:=Rv.2.1) q rfl hv ?_|refine Ze ?_|refine Zo ?_|refine J6 ?_|refine Jf ?_|refine Zp ?_|refine J5 ?_|refine J8 ?_|refine J3 ?_
    refine Ym (J8H hk hnl hnd (F:=F) (i:=0) (v:=1) (hv:=2) (s:=15) (hs:=16) (ns:=(σ.M.take (fromZ Z c j)++(Rv.1++σ.M.drop (fromZ Z c j+z))).length) (n:=σ.n+1+Rv.2.2) hxm v rfl rfl) ?_
    repeat' first|refine Z1 ?_|refine Z2 ?_|refine Z3 ?_|refine Z5 ?_|refine Zf ?_|refine Jf ?_|refine J3 ?_|refine J4 ?_
    exact⟨(q+1,sput F x v),⟨hlt3,j2⟩,by(try simp only);omega,Js [(15,15)] rfl rfl rfl ⟨⟨rfl,rfl⟩,⟨rfl,rfl⟩,⟨rfl,rfl⟩,⟨rfl,rfl⟩,⟨rfl,rfl⟩,⟨rfl,rfl⟩,⟨rfl,rfl⟩,trivial⟩ ⟨⟨rfl,rfl⟩,⟨Jd rfl (by first|exact Jg _ _ _|rfl),Je rfl,Jc _ _ _⟩,⟨Jd rfl (by first|exact Jg _ _ _|rfl),Je rfl,Jc _ _ _⟩,trivial⟩⟩
   have d3:decide (s.kind=3)=false:=J1 k3
   rw[if_neg k3]at i4 hn2
   have hnb:σ.n+1≤1099511627776:=by dsimp only at hn2;omega
   repeat' first|refine Z1 ?_|refine Z2 ?_|refine Z3 ?_|refine Z5 ?_|refine Ju ?_|refine Ze ?_|refine Zf ?_|refine Zo ?_|refine J6 ?_|refine Jf ?_|refine Zp ?_|refine Zq ?_|refine J5 ?_|refine J8 ?_|refine J3 ?_|refine J4 ?_
   exact⟨(i+1,l,R,{σ with n:=σ.n+1}),⟨h,hdr,by simp only;omega,i4,i5,i6,hσ1,by simp only;omega⟩,by(try simp only);omega,Js [(5,5)] rfl rfl rfl ⟨⟨rfl,rfl⟩,⟨rfl,rfl⟩,⟨rfl,rfl⟩,trivial⟩ ⟨⟨rfl,rfl⟩,⟨Jd rfl (by first|exact Jg _ _ _|rfl),Je rfl,Jc _ _ _⟩,⟨Jd rfl (by first|exact Jg _ _ _|rfl),Je rfl,Jc _ _ _⟩,trivial⟩⟩
  |@cond _ s e f y w l Y W R h4 h5 h6 hOi hEi hy hw h=>
   simp only[List.length_cons,List.length_append]at i3 i8
   have ei:decide ((i:Int)<(to:Int))=true:=J0 (by omega)
   have hx:c.body[i]? = some s:=by have:=congrArg (fun q=>q[0]?) i2;simpa using this
   have hil:i<c.body.length:=(List.getElem?_eq_some_iff.1 hx).1
   have hlc:(s::(y++e::(w++f::l))).length=y.length+w.length+l.length+3:=by simp only[List.length_cons,List.length_append];omega
   have dr1:c.body.drop (i+1)=y++(e::(w++f::l)++Rr):=by
    have:=congrArg (fun q=>q.drop 1) i2
    simpa[List.drop_drop,Nat.add_comm]using this
   have dr2:c.body.drop (i+1+y.length+1)=w++(f::l++Rr):=by
    have:=congrArg (fun q=>q.drop 1) (J3l dr1)
    rw[List.drop_drop]at this
    simpa using this
   have dr3:c.body.drop (i+1+y.length+1+w.length+1)=l++Rr:=by
    have:=congrArg (fun q=>q.drop 1) (J3l dr2)
    rw[List.drop_drop]at this
    simpa using this
   have hbl2:i+1+y.length+1+w.length<c.body.length:=by
    rcases Nat.lt_or_ge (i+1+y.length+1+w.length) c.body.length with h|h
    ·exact h
    ·exfalso
     have:=J3l dr2
     rw[List.drop_eq_nil_of_le h]at this
     simp at this
   simp only[exL,exB]at i4
   rw[if_pos h4]at i4
   simp only[okL,okB]at i5
   obtain⟨⟨_,o1,o2⟩,i5⟩:=i5
   simp only[nmL,nmB]at i6
   obtain⟨⟨⟨_,m0,_⟩,m1,m2⟩,i6⟩:=i6
   have hnm:=m0 h4
   obtain⟨s1,s2,s3,s4⟩:=i7
   have hσ1:okMS m {σ with n:=σ.n+1}:=⟨s1,s2,s3,by show 0≤σ.n+1;omega⟩
   have d4:decide (s.kind=4)=true:=J0 h4
   have d1:decide (s.kind=1)=false:=J1 (by omega)
   have d2:decide (s.kind=2)=false:=J1 (by omega)
   by_cases hz:rho σ.F s.name≠0
   ·have dz:decide (rho σ.F s.name≠0)=true:=J0 hz
    rw[if_pos hz]at i4
    have hn2:=J20 hcall Z c R (exL call Z c Y {σ with n:=σ.n+1})
    rw[i4]at hn2
    have hres:=J1L (cs:=ds) (call:=call) (Z:=Z) (c:=c) (m:=m) hcall hpres Y {σ with n:=σ.n+1} o1 hσ1
    have hn3:=J20 hcall Z c Y {σ with n:=σ.n+1}
    have hnb:σ.n+1≤1099511627776:=by dsimp only at hn3;omega
    have hrec:=ih y.length (by omega) (i+1) y Y (Nat.le_refl _) hy _ dr1 o1 m1 {σ with n:=σ.n+1} hσ1 (by omega)
    have hemb:=fun(τ:St) q0 q1 q5=>J6p hrec (i:=0) (v:=1) (hv:=2) (s:=5) (hs:=6) (by decide) (by decide) (by decide) (τ:=τ) q0 q1 q5
    repeat' first|refine Z1 ?_|refine Z2 ?_|refine Z5 ?_|refine Ju ?_|refine Ze ?_|refine Zf ?_|refine Zo ?_|refine J6 ?_|refine Zp ?_|refine Zq ?_|refine J5 ?_|refine J8 ?_|refine J3 ?_
    refine Jv (fun _=>True) [] Jp (by decide +kernel) ?_
    repeat' first|refine Wl (i:=0) rfl trivial ?_|refine Wa ?_|refine Wn ?_
    refine Wq (fun τ _=>Yej (e:=fun l=>[D.im (l.map eNum)]) (l:=oth) k rfl hO ⟨rfl,rfl⟩) ?_
    repeat' first|refine Wa ?_
    refine Wq (fun τ _=>Yej (e:=eNum) (l:=O) i rfl hOi ⟨rfl,rfl⟩) ?_
    repeat' first|refine Wa ?_
    refine Wy ?_
    repeat' first|refine J6 ?_|refine J3 ?_
    refine Jv (fun _=>True) [] Jp (by decide +kernel) ?_
    repeat' first|refine Wl (i:=0) rfl trivial ?_|refine Wa ?_|refine Wn ?_
    refine Wq (fun τ _=>Yej (e:=fun l=>[D.im (l.map eNum)]) (l:=fin) k rfl hE ⟨rfl,rfl⟩) ?_
    repeat' first|refine Wa ?_
    refine Wq (fun τ _=>Yej (e:=eNum) (l:=E) i rfl hEi ⟨rfl,rfl⟩) ?_
    repeat' first|refine Wa ?_
    refine Wy ?_
    repeat' first|refine Z1 ?_|refine Z2 ?_|refine Z3 ?_|refine Z5 ?_|refine Ym (J6M hk hnl (F:=σ.F) (i:=0) (v:=1) (hv:=2) (s:=5) (hs:=6) (ns:=σ.M.length) (n:=σ.n+1) hnm rfl rfl) ?_|refine Ym (hemb _ rfl rfl rfl) ?_|refine Zf ?_|refine Zo ?_|refine J6 ?_|refine Jf ?_|refine Zp ?_|refine J3 ?_|refine J4 ?_
    exact⟨(i+1+y.length+1+w.length+1,l,R,exL call Z c Y {σ with n:=σ.n+1}),⟨h,dr3,by simp only;omega,i4,i5,i6,hres,by simp only;omega⟩,by(try simp only);omega,Js [(5,8),(6,9)] rfl rfl rfl ⟨⟨rfl,rfl⟩,⟨rfl,rfl⟩,⟨rfl,rfl⟩,trivial⟩ ⟨⟨rfl,rfl⟩,⟨Jd rfl (by first|exact Jg _ _ _|rfl),Je rfl,Jc _ _ _⟩,⟨Jd rfl (by first|exact Jg _ _ _|rfl),Je rfl,Jc _ _ _⟩,trivial⟩⟩
   ·have dz:decide (rho σ.F s.name≠0)=false:=J1 hz
    rw[if_neg hz]at i4
    have hn2:=J20 hcall Z c R (exL call Z c W {σ with n:=σ.n+1})
    rw[i4]at hn2
    have hres:=J1L (cs:=ds) (call:=call) (Z:=Z) (c:=c) (m:=m) hcall hpres W {σ with n:=σ.n+1} o2 hσ1
    have hn3:=J20 hcall Z c W {σ with n:=σ.n+1}
    have hnb:σ.n+1≤1099511627776:=by dsimp only at hn3;omega
    have hrec:=ih w.length (by omega) (i+1+y.length+1) w W (Nat.le_refl _) hw _ dr2 o2 m2 {σ with n:=σ.n+1} hσ1 (by omega)
    have hemb:=fun(τ:St) q0 q1 q5=>J6p hrec (i:=0) (v:=1) (hv:=2) (s:=5) (hs:=6) (by decide) (by decide) (by decide) (τ:=τ) q0 q1 q5
    repeat' first|refine Z1 ?_|refine Z2 ?_|refine Z5 ?_|refine Ju ?_|refine Ze ?_|refine Zf ?_|refine Zo ?_|refine J6 ?_|refine Zp ?_|refine Zq ?_|refine J5 ?_|refine J8 ?_|refine J3 ?_
    refine Jv (fun _=>True) [] Jp (by decide +kernel) ?_
    repeat' first|refine Wl (i:=0) rfl trivial ?_|refine Wa ?_|refine Wn ?_
    refine Wq (fun τ _=>Yej (e:=fun l=>[D.im (l.map eNum)]) (l:=oth) k rfl hO ⟨rfl,rfl⟩) ?_
    repeat' first|refine Wa ?_
    refine Wq (fun τ _=>Yej (e:=eNum) (l:=O) i rfl hOi ⟨rfl,rfl⟩) ?_
    repeat' first|refine Wa ?_
    refine Wy ?_
    repeat' first|refine J6 ?_|refine J3 ?_
    refine Jv (fun _=>True) [] Jp (by decide +kernel) ?_
    repeat' first|refine Wl (i:=0) rfl trivial ?_|refine Wa ?_|refine Wn ?_
    refine Wq (fun τ _=>Yej (e:=fun l=>[D.im (l.map eNum)]) (l:=fin) k rfl hE ⟨rfl,rfl⟩) ?_
    repeat' first|refine Wa ?_
    refine Wq (fun τ _=>Yej (e:=eNum) (l:=E) i rfl hEi ⟨rfl,rfl⟩) ?_
    repeat' first|refine Wa ?_
    refine Wy ?_
    repeat' first|refine Z1 ?_|refine Z2 ?_|refine Z3 ?_|refine Z5 ?_|refine Ym (J6M hk hnl (F:=σ.F) (i:=0) (v:=1) (hv:=2) (s:=5) (hs:=6) (ns:=σ.M.length) (n:=σ.n+1) hnm rfl rfl) ?_|refine Ym (hemb _ rfl rfl rfl) ?_|refine Zf ?_|refine Zo ?_|refine J6 ?_|refine Jf ?_|refine Zq ?_|refine J3 ?_|refine J4 ?_
    exact⟨(i+1+y.length+1+w.length+1,l,R,exL call Z c W {σ with n:=σ.n+1}),⟨h,dr3,by simp only;omega,i4,i5,i6,hres,by simp only;omega⟩,by(try simp only);omega,Js [(5,8),(6,9)] rfl rfl rfl ⟨⟨rfl,rfl⟩,⟨rfl,rfl⟩,⟨rfl,rfl⟩,trivial⟩ ⟨⟨rfl,rfl⟩,⟨Jd rfl (by first|exact Jg _ _ _|rfl),Je rfl,Jc _ _ _⟩,⟨Jd rfl (by first|exact Jg _ _ _|rfl),Je rfl,Jc _ _ _⟩,trivial⟩⟩
end Go.Pm
/- Part of the proof: Sh7. -/
namespace Go.Pm
attribute [local irreducible] AR Ok inBlock andThen endQ aoper
set_option maxHeartbeats 8000000
open Go.Proofs
def eOth (c:Cls):List D:=[.im ((planL c.body).1.map eNum)]
def eFin (c:Cls):List D:=[.im ((planL c.body).2.map eNum)]
section
variable {X:Cfg} {nt:Nat} {Q:Exit→Env→St→Prop} {K:AV→St→Prop} {env:Env} {σ:St}
theorem Ymk {t el n k:Nat} {ti te:TI} {l c:Operand} (hk':k≤4294967296) (hz0:zrow te=[vi 0]) (h:K (.sl n n 0 k) (σ.alloc (.row n el te.size (im2 eNum (zerosI k))))) (hl:aev X env l=vi (k:Int):=by exact rfl) (hc:aev X env c=vi (k:Int):=by exact rfl) (ht:X.T t=some ti:=by exact rfl) (hk:ti.kind=.slice el:=by exact rfl) (hte:X.T el=some te:=by exact rfl)
  (hp:Nat.blt 0 te.size=true:=by exact rfl) (hb:Nat.ble te.bytes 32768=true:=by exact rfl) (hn:natF σ.next=some n:=by exact rfl):aoper X (.makeSlice t l c) env σ Q K:=by
 refine J04 hl hc hk' ht hk hte hp hb hn ?_
 have e:List.replicate k (zrow te)=im2 eNum (zerosI k):=by
  rw[hz0];simp[im2,zerosI,eNum]
 rw[e];exact h
end
theorem J7H {α:Type} {w:α→Nat} {l:List α} {n:Nat} (h:wL w l≤n):l.length≤n:=by unfold wL at h;omega
def AFzE (σ:St) (env:Env):List (Nat×AV)→Prop
 |[]=>True
 |(k,v)::l=>AFz σ (env k) v∧AFzE σ env l
theorem J6k {σ:St} {env:Env}:∀{L:List (Nat×AV)},AFzE σ env L→∀t,AFz σ (env t) (envL L t)
 |[],_,t=>.any _
 |(k,v)::l,h,t=>by
  simp only[envL]
  by_cases e:t=k
  ·subst e;rw[if_pos rfl];exact h.1
  ·rw[if_neg e];exact J6k h.2 t
theorem J7n (b:Br):∀(st:List Fr) (R:List Br),(putF b st R).1.length=st.length
 |[],R=>rfl
 |f::st,R=>by simp[putF]
theorem J5U {J:List Int} {h:Nat} (hh:h+1≤J.length):∃v,J[h]? = some v∧(J.take (h+1)).getLast?.getD 0=v∧(J.take (h+1)).dropLast=J.take h:=by
 refine⟨J[h],List.getElem?_eq_getElem (by omega),?_,?_⟩
 ·rw[JT (List.getElem?_eq_getElem (show h<J.length by omega)),List.getLast?_concat];rfl
 ·rw[JT (List.getElem?_eq_getElem (show h<J.length by omega)),List.dropLast_concat]
theorem J9W (cs:List Cls) (hw:wL wCls cs≤1048576) (hg:∀(k:Nat) (c:Cls),cs[k]? = some c→goodC k c):
  PFun X 68 [.agg [.d (.im (cs.map eCls))]] (.d (planD cs (cs.map fun c=>(planL c.body).1) (cs.map fun c=>(planL c.body).2) (cellsS cs))):=by
 have hcl:cs.length≤1048576:=J7H hw
 have hce:=J3D cs hw fun k c hx=>(hg k c hx).2.1
 obtain⟨Zs,hZs⟩:∃Zs,Zs=cellsS cs:=⟨_,rfl⟩
 rw[←hZs]at hce ⊢
 refine Jn Tryz.func68 rfl (by decide) Tryz.ntmps68 Tryz.results68 (by simp) rfl rfl ?_
 repeat' first|refine Z1 ?_|refine Z2 ?_|refine Z5 ?_|refine Zc (hce) ?_|refine Zd ?_|refine Zo ?_|refine J6 ?_|refine J5 ?_
 refine JC (J0t 1 50 1 rfl (cs':=[.sl 2 2 0 0,.d (.s (.slice none 0 0)),.d (.s (.slice none 0 0)),.d (.im (Zs.map eNum))]) rfl rfl ⟨.nil,.refl _,.refl _,.refl _,trivial⟩) ?_
 refine JC (J0t 1 25 1 rfl (cs':=[.sl 2 2 0 0,.sl 3 3 0 0,.d (.s (.slice none 0 0)),.d (.im (Zs.map eNum))]) rfl rfl ⟨.refl _,.nil,.refl _,.refl _,trivial⟩) ?_
 refine JC (J0t 1 25 1 rfl (cs':=[.sl 2 2 0 0,.sl 3 3 0 0,.sl 4 4 0 0,.d (.im (Zs.map eNum))]) rfl rfl ⟨.refl _,.refl _,.nil,.refl _,trivial⟩) ?_
 refine JX (ι:=Nat×List Cls) (fun x_=>envL [(3,.ref 1 0),(16,.d (.im (cs.map eCls))),(17,vi cs.length),(18,vi x_.1)]) (fun x_=>stL [some (.var [.d (.im (cs.map eCls))]),some (.var [.sl 2 5 0 x_.2.length,.sl 3 6 0 x_.2.length,.sl 4 7 0 x_.2.length,.d (.im (Zs.map eNum))]),some (.row 5 50 1 (im2 eNms x_.2)),some (.row 6 25 1 (im2 eOth x_.2)),some (.row 7 25 1 (im2 eFin x_.2)),none,none,none]) (fun x_=>x_.1≤cs.length∧x_.2=cs.take x_.1) (fun x_=>cs.length-x_.1) (0,[]) (⟨Nat.zero_le _,rfl⟩) Turn.refl (Js [(5,2),(6,3),(7,4)] rfl rfl rfl ⟨⟨rfl,rfl⟩,⟨rfl,rfl⟩,⟨rfl,rfl⟩,⟨rfl,rfl⟩,trivial⟩ ⟨⟨rfl,rfl⟩,⟨rfl,rfl⟩,⟨Jd rfl (by first|exact Jg _ _ _|rfl),Je rfl,Jc _ _ _⟩,⟨Jd rfl (by first|exact Jg _ _ _|rfl),Je rfl,Jc _ _ _⟩,⟨Jd rfl (by first|exact Jg _ _ _|rfl),Je rfl,Jc _ _ _⟩,trivial⟩) ?_
 rintro⟨j,L⟩ ⟨j1,j2⟩
 simp only at j1 j2
 show Ok _ _ _ _ (envL [(3,.ref 1 0),(16,.d (.im (cs.map eCls))),(17,vi cs.length),(18,vi j)]) (stL [some (.var [.d (.im (cs.map eCls))]),some (.var [.sl 2 5 0 L.length,.sl 3 6 0 L.length,.sl 4 7 0 L.length,.d (.im (Zs.map eNum))]),some (.row 5 50 1 (im2 eNms L)),some (.row 6 25 1 (im2 eOth L)),some (.row 7 25 1 (im2 eFin L)),none,none,none])
 have hLl:L.length=j:=by rw[j2,List.length_take];omega
 rcases hy:cs[j]? with _|c
 ·have hge:=Jo hy
  have ej:decide ((j:Int)<(cs.length:Int))=false:=J1 (by omega)
  have hL:L=cs:=by rw[j2,List.take_of_length_le hge]
  subst hL
  have hpd:planD L (L.map fun c=>(planL c.body).1) (L.map fun c=>(planL c.body).2) Zs=.ip [.im (L.map eNms),.im (L.map eOth),.im (L.map eFin),.im (Zs.map eNum)] 0:=by
   unfold planD
   rw[List.map_map,List.map_map];rfl
  rw[hpd]
  refine JC (J6l (env':=envL [(3,.d (.ip [.im (L.map eNms),.im (L.map eOth),.im (L.map eFin),.im (Zs.map eNum)] 0)),(17,vi L.length),(18,vi j)]) fun t=>?_) ?_
  ·refine J6k (L:=[(3,.d (.ip [.im (L.map eNms),.im (L.map eOth),.im (L.map eFin),.im (Zs.map eNum)] 0)),(17,vi L.length),(18,vi j)]) ?_ t
   refine⟨.data (.ref (cells:=[.sl 2 5 0 L.length,.sl 3 6 0 L.length,.sl 4 7 0 L.length,.d (.im (Zs.map eNum))]) rfl rfl fun q h1 h2=>?_),J69 _,J69 _,trivial⟩
   match q,h1,h2 with
   |0,_,_=>exact J0j (e:=eNms) (l:=L) (i:=2) (v:=5) (E:=50) (sz:=1) rfl rfl
   |1,_,_=>exact J0j (e:=eOth) (l:=L) (i:=3) (v:=6) (E:=25) (sz:=1) rfl rfl
   |2,_,_=>exact J0j (e:=eFin) (l:=L) (i:=4) (v:=7) (E:=25) (sz:=1) rfl rfl
   |3,_,_=>exact .d _
  repeat' first|refine Z1 ?_|refine Z2 ?_|refine Zo ?_|refine J6 ?_|refine Zq ?_|refine Jh ?_|refine Jb ?_|refine J3 ?_|refine Ja ?_|refine Zv ?_|refine Zt ?_
  rfl
 obtain⟨_,hlt3⟩:=Ji hy
 have ej:decide ((j:Int)<(cs.length:Int))=true:=J0 (by omega)
 have hwc:wCls c≤1048576:=by have:=JE (w:=wCls) (List.mem_of_getElem? hy);simp only[wL]at hw;omega
 have hbl:c.body.length≤1048576:=J7H (w:=wSm) (n:=1048576) (by unfold wCls at hwc;omega)
 obtain⟨T,hT⟩:=(hg j c hy).1
 repeat' first|refine Z1 ?_|refine Z2 ?_|refine Z5 ?_|refine Ymk (k:=c.body.length) (by omega) rfl ?_|refine Yw (sz:=1) (rows:=[]) (n:=11) ?_|refine Zd ?_|refine Ze ?_|refine Zo ?_|refine J6 ?_|refine Zp ?_|refine J5 ?_|refine J8 ?_|refine J3 ?_
 refine JX (ι:=Nat×List Int×Nat×List Int×List Int) (fun x_=>envL [(3,.ref 1 0),(16,.d (.im (cs.map eCls))),(17,vi cs.length),(18,vi j),(5,.ref 8 0),(6,.sl 9 9 0 c.body.length),(7,.sl 10 10 0 c.body.length),(8,.sl 12 13 0 x_.2.2.1),(32,.d (.im (c.body.map eSm))),(33,vi c.body.length),(34,vi x_.1)]) (fun x_=>stL [some (.var [.d (.im (cs.map eCls))]),some (.var [.sl 2 5 0 L.length,.sl 3 6 0 L.length,.sl 4 7 0 L.length,.d (.im (Zs.map eNum))]),some (.row 5 50 1 (im2 eNms L)),some (.row 6 25 1 (im2 eOth L)),some (.row 7 25 1 (im2 eFin L)),none,none,none,some (.var ((eCls c).map .d)),some (.row 9 3 1 (im2 eNum x_.2.2.2.1)),some (.row 10 3 1 (im2 eNum x_.2.2.2.2)),none,some (.row 13 3 1 (im2 eNum x_.2.1)),none]) (fun x_=>x_.1≤c.body.length∧x_.2.2.1≤x_.2.1.length∧x_.2.2.1≤x_.1∧planGo x_.1 (c.body.drop x_.1) (x_.2.1.take x_.2.2.1) x_.2.2.2.1 x_.2.2.2.2=planL c.body∧x_.2.2.2.1.length=c.body.length∧x_.2.2.2.2.length=c.body.length∧(∀v∈x_.2.1.take x_.2.2.1,0≤v∧v<(c.body.length:Int))∧(∃st R,st.length=x_.2.2.1∧growGo (c.body.drop x_.1) st R=some T)) (fun x_=>c.body.length-x_.1) (0,[],0,zerosI c.body.length,zerosI c.body.length) (⟨Nat.zero_le _,Nat.zero_le _,Nat.zero_le _,rfl,by simp[zerosI],by simp[zerosI],fun v hv=>by simp at hv,[],[],rfl,hT⟩) Turn.refl (Js [(12,11),(13,11)] rfl rfl rfl ⟨⟨rfl,rfl⟩,⟨rfl,rfl⟩,⟨rfl,rfl⟩,⟨rfl,rfl⟩,⟨rfl,rfl⟩,⟨rfl,rfl⟩,⟨rfl,rfl⟩,⟨rfl,rfl⟩,⟨rfl,rfl⟩,⟨rfl,rfl⟩,⟨rfl,rfl⟩,trivial⟩ ⟨⟨rfl,rfl⟩,⟨rfl,rfl⟩,⟨Jd rfl (by first|exact Jg _ _ _|rfl),Je rfl,Jc _ _ _⟩,⟨Jd rfl (by first|exact Jg _ _ _|rfl),Je rfl,Jc _ _ _⟩,⟨Jd rfl (by first|exact Jg _ _ _|rfl),Je rfl,Jc _ _ _⟩,⟨rfl,rfl⟩,⟨Jd rfl (by first|exact Jg _ _ _|rfl),Je rfl,Jc _ _ _⟩,⟨Jd rfl (by first|exact Jg _ _ _|rfl),Je rfl,Jc _ _ _⟩,⟨Jd rfl (by first|exact Jg _ _ _|rfl),Je rfl,Jc _ _ _⟩,trivial⟩) ?_
 rintro⟨i,J,h,O,E⟩ ⟨i1,i2,i3,i4,i5,i6,i7,st,R,i8,i9⟩
 simp only at i1 i2 i3 i4 i5 i6 i7 i8 i9
 show Ok _ _ _ _ (envL [(3,.ref 1 0),(16,.d (.im (cs.map eCls))),(17,vi cs.length),(18,vi j),(5,.ref 8 0),(6,.sl 9 9 0 c.body.length),(7,.sl 10 10 0 c.body.length),(8,.sl 12 13 0 h),(32,.d (.im (c.body.map eSm))),(33,vi c.body.length),(34,vi i)]) (stL [some (.var [.d (.im (cs.map eCls))]),some (.var [.sl 2 5 0 L.length,.sl 3 6 0 L.length,.sl 4 7 0 L.length,.d (.im (Zs.map eNum))]),some (.row 5 50 1 (im2 eNms L)),some (.row 6 25 1 (im2 eOth L)),some (.row 7 25 1 (im2 eFin L)),none,none,none,some (.var ((eCls c).map .d)),some (.row 9 3 1 (im2 eNum O)),some (.row 10 3 1 (im2 eNum E)),none,some (.row 13 3 1 (im2 eNum J)),none])
 rcases hx:c.body[i]? with _|s
 ·have hge:=Jo hx
  have ei:decide ((i:Int)<(c.body.length:Int))=false:=J1 (by omega)
  rw[List.drop_eq_nil_of_le hge]at i4
  simp only[planGo]at i4
  have hO:O=(planL c.body).1:=by rw[←i4]
  have hE:E=(planL c.body).2:=by rw[←i4]
  subst hO
  subst hE
  refine JC (J4K (env':=envL [(3,.ref 1 0),(16,.d (.im (cs.map eCls))),(17,vi cs.length),(18,vi j),(5,.ref 8 0),(6,.d (.im ((planL c.body).1.map eNum))),(7,.d (.im ((planL c.body).2.map eNum))),(33,vi c.body.length),(34,vi i)]) (σ':=stL [some (.var [.d (.im (cs.map eCls))]),some (.var [.sl 2 5 0 L.length,.sl 3 6 0 L.length,.sl 4 7 0 L.length,.d (.im (Zs.map eNum))]),some (.row 5 50 1 (im2 eNms L)),some (.row 6 25 1 (im2 eOth L)),some (.row 7 25 1 (im2 eFin L)),none,none,none,some (.var ((eCls c).map .d)),none,none,none,none,none]) (fun q=>q == 9||q == 10) rfl (fun q o' h=>?_) fun t=>?_) ?_
  ·match q,h with
   |0,h=>obtain rfl:=Option.some.inj h;exact⟨rfl,_,rfl,.same _⟩
   |1,h=>obtain rfl:=Option.some.inj h;exact⟨rfl,_,rfl,.same _⟩
   |2,h=>obtain rfl:=Option.some.inj h;exact⟨rfl,_,rfl,.same _⟩
   |3,h=>obtain rfl:=Option.some.inj h;exact⟨rfl,_,rfl,.same _⟩
   |4,h=>obtain rfl:=Option.some.inj h;exact⟨rfl,_,rfl,.same _⟩
   |5,h=>cases h
   |6,h=>cases h
   |7,h=>cases h
   |8,h=>obtain rfl:=Option.some.inj h;exact⟨rfl,_,rfl,.same _⟩
   |9,h=>cases h
   |10,h=>cases h
   |11,h=>cases h
   |12,h=>cases h
   |13,h=>cases h
   |q+14,h=>simp[stL]at h
  ·refine J7T (L:=[(3,.ref 1 0),(16,.d (.im (cs.map eCls))),(17,vi cs.length),(18,vi j),(5,.ref 8 0),(6,.d (.im ((planL c.body).1.map eNum))),(7,.d (.im ((planL c.body).2.map eNum))),(33,vi c.body.length),(34,vi i)]) ?_ t
   exact⟨.same _,.same _,.same _,.same _,.same _,.fz (.data (J0j (e:=eNum) (l:=(planL c.body).1) (i:=9) (v:=9) (E:=3) (sz:=1) rfl i5.symm)),.fz (.data (J0j (e:=eNum) (l:=(planL c.body).2) (i:=10) (v:=10) (E:=3) (sz:=1) rfl i6.symm)),.same _,.same _,trivial⟩
  repeat' first|refine Z1 ?_|refine Z2 ?_|refine Zo ?_|refine J6 ?_|refine Zq ?_|refine Jh ?_|refine J3 ?_|refine Ja ?_|refine Zv ?_
  refine Jv (fun q=>q=1∨q=8) [7,8,11] Jp (by decide +kernel) ?_
  repeat' first|refine Wl (i:=8) rfl (.inr rfl) ?_|refine Wr (i:=1) rfl (.inl rfl) ?_|refine Wa ?_|refine Wn ?_
  refine Wq (fun τ _=>Zc (J0z c hwc) ⟨rfl,rfl⟩) ?_
  refine We (Yw (sz:=1) (rows:=[[.d (.im ((nmsC c).map eStr))]]) (n:=14) ⟨rfl,rfl⟩) (.inr (fun q hq=>if_neg (show ¬q=14 by omega))) ?_
  refine We (app4 (e:=eNms) (l:=L) (y:=c) (i:=2) (h:=5) (k:=14) (v:=14) rfl rfl (fun _=>rfl) ⟨rfl,rfl⟩) (.inr (fun q hq=>by rw[J09,if_neg (by omega)])) ?_
  repeat' first|refine Wa ?_|refine Wn ?_
  refine We (Yt (i:=1) (m:=[.sl 2 15 0 (L++[c]).length,.sl 3 6 0 L.length,.sl 4 7 0 L.length,.d (.im (Zs.map eNum))]) rfl ⟨rfl,rfl⟩) (.inl rfl) ?_
  first|refine Wx ?_|refine Wy ?_
  repeat' first|refine Z1 ?_|refine Z2 ?_|refine Z3 ?_|refine Z4 ?_|refine Z5 ?_|refine Ju ?_|refine Yl (e:=eOth) (l:=L) [c] ?_|refine Yl (e:=eFin) (l:=L) [c] ?_|refine Zf ?_|refine Zo ?_|refine Jf ?_|refine J3 ?_|refine J4 ?_
  exact⟨(j+1,L++[c]),⟨hlt3,by rw[j2,JT hy]⟩,by(try simp only);omega,Js [(5,15),(6,17),(7,19)] rfl rfl rfl ⟨⟨rfl,rfl⟩,⟨rfl,rfl⟩,⟨rfl,rfl⟩,⟨rfl,rfl⟩,trivial⟩ ⟨⟨rfl,rfl⟩,⟨rfl,rfl⟩,⟨Jd rfl (by first|exact Jg _ _ _|rfl),Je rfl,Jc _ _ _⟩,⟨Jd rfl (by first|exact Jg _ _ _|rfl),Je rfl,Jc _ _ _⟩,⟨Jd rfl (by first|exact Jg _ _ _|rfl),Je rfl,Jc _ _ _⟩,trivial⟩⟩
 obtain⟨hdr,hil⟩:=Ji hx
 have ei:decide ((i:Int)<(c.body.length:Int))=true:=J0 (by omega)
 rw[hdr]at i4 i9
 simp only[planGo]at i4
 simp only[growGo]at i9
 by_cases k4:s.kind=4
 ·have d4:decide (s.kind=4)=true:=J0 k4
  rw[if_pos k4]at i4 i9
  have htk:(J.take h++[(i:Int)]).take (h+1)=J.take h++[(i:Int)]:=List.take_of_length_le (by rw[List.length_append,List.length_take,List.length_singleton];omega)
  have hjl:(J.take h++[(i:Int)]).length=h+1:=by rw[List.length_append,List.length_take,List.length_singleton];omega
  repeat' first|refine Z1 ?_|refine Z2 ?_|refine Z3 ?_|refine Z4 ?_|refine Z5 ?_|refine Yl2 (e:=eNum) (J:=J) [(i:Int)] i2 ?_|refine Ze ?_|refine Zf ?_|refine Zo ?_|refine J6 ?_|refine Jf ?_|refine Zp ?_|refine J5 ?_|refine J8 ?_|refine J3 ?_|refine J4 ?_
  exact⟨(i+1,J.take h++[(i:Int)],h+1,O,E),⟨hil,by simp only;omega,by simp only;omega,by simp only;rw[htk];exact i4,i5,i6,by simp only;rw[htk];intro v hv;rcases List.mem_append.1 hv with q|q;exact i7 v q;simp only[List.mem_singleton]at q;subst q;omega,⟨_,_,by simp[i8],i9⟩⟩,by(try simp only);omega,Js [(13,16)] rfl rfl rfl ⟨⟨rfl,rfl⟩,⟨rfl,rfl⟩,⟨rfl,rfl⟩,⟨rfl,rfl⟩,⟨rfl,rfl⟩,⟨rfl,rfl⟩,⟨rfl,rfl⟩,⟨rfl,rfl⟩,⟨rfl,rfl⟩,⟨rfl,rfl⟩,⟨rfl,rfl⟩,trivial⟩ ⟨⟨rfl,rfl⟩,⟨rfl,rfl⟩,⟨Jd rfl (by first|exact Jg _ _ _|rfl),Je rfl,Jc _ _ _⟩,⟨Jd rfl (by first|exact Jg _ _ _|rfl),Je rfl,Jc _ _ _⟩,⟨Jd rfl (by first|exact Jg _ _ _|rfl),Je rfl,Jc _ _ _⟩,⟨rfl,rfl⟩,⟨Jd rfl (by first|exact Jg _ _ _|rfl),Je rfl,Jc _ _ _⟩,⟨Jd rfl (by first|exact Jg _ _ _|rfl),Je rfl,Jc _ _ _⟩,⟨Jd rfl (by first|exact Jg _ _ _|rfl),Je rfl,Jc _ _ _⟩,trivial⟩⟩
 have d4:decide (s.kind=4)=false:=J1 k4
 rw[if_neg k4]at i4 i9
 by_cases k5:s.kind=5
 ·have d5:decide (s.kind=5)=true:=J0 k5
  rw[if_pos k5]at i4 i9
  cases st with
  |nil=>simp at i9
  |cons f st=>
   dsimp only at i9
   by_cases hf:f.els=true
   ·rw[if_pos hf]at i9;cases i9
   rw[if_neg hf]at i9
   obtain⟨h',rfl⟩:∃h',h=h'+1:=⟨h-1,by simp only[List.length_cons]at i8;omega⟩
   obtain⟨v,hv,hl1,hl2⟩:=J5U i2
   obtain⟨v0,v1⟩:=i7 v (by rw[JT hv];simp)
   obtain⟨vn,hvn⟩:∃vn:Nat,v=(vn:Int):=⟨v.toNat,by omega⟩
   rw[hl1,hvn,Int.toNat_natCast]at i4
   have hvl:vn<c.body.length:=by omega
   have hw1:((h'+1:Nat):Int)-1=(h':Int):=by omega
   repeat' first|refine Z1 ?_|refine Z2 ?_|refine Z3 ?_|refine Z5 ?_|refine Yi1 (i:=12) h' rfl hw1 (Nat.lt_succ_self _) ?_|refine Ye1 (i:=12) rfl (J0b hv) ?_|refine Yi1 (i:=9) vn rfl hvn hvl ?_|refine J4t (e:=eNum) (l:=O) (y:=(i:Int)) (i5.symm▸hvl) (fun _=>rfl) rfl rfl rfl rfl rfl ?_|refine Ze ?_|refine Zf ?_|refine Zg ?_|refine Zo ?_|refine J6 ?_|refine Jf ?_|refine Zp ?_|refine Zq ?_|refine J5 ?_|refine J8 ?_|refine J3 ?_|refine J4 ?_
   exact⟨(i+1,J,h'+1,O.set vn (i:Int),E),⟨hil,i2,by simp only;omega,i4,by simp only[List.length_set];exact i5,i6,i7,⟨_,_,by simpa using i8,i9⟩⟩,by(try simp only);omega,Js [(14,14)] rfl rfl rfl ⟨⟨rfl,rfl⟩,⟨rfl,rfl⟩,⟨rfl,rfl⟩,⟨rfl,rfl⟩,⟨rfl,rfl⟩,⟨rfl,rfl⟩,⟨rfl,rfl⟩,⟨rfl,rfl⟩,⟨rfl,rfl⟩,⟨rfl,rfl⟩,⟨rfl,rfl⟩,trivial⟩ ⟨⟨rfl,rfl⟩,⟨rfl,rfl⟩,⟨Jd rfl (by first|exact Jg _ _ _|rfl),Je rfl,Jc _ _ _⟩,⟨Jd rfl (by first|exact Jg _ _ _|rfl),Je rfl,Jc _ _ _⟩,⟨Jd rfl (by first|exact Jg _ _ _|rfl),Je rfl,Jc _ _ _⟩,⟨rfl,rfl⟩,⟨Jd rfl (by first|exact Jg _ _ _|rfl),Je rfl,Jc _ _ _⟩,⟨Jd rfl (by first|exact Jg _ _ _|rfl),Je rfl,Jc _ _ _⟩,⟨Jd rfl (by first|exact Jg _ _ _|rfl),Je rfl,Jc _ _ _⟩,trivial⟩⟩
 have d5:decide (s.kind=5)=false:=J1 k5
 rw[if_neg k5]at i4 i9
 by_cases k6:s.kind=6
 ·have d6:decide (s.kind=6)=true:=J0 k6
  rw[if_pos k6]at i4 i9
  cases st with
  |nil=>simp at i9
  |cons f st=>
   dsimp only at i9
   by_cases hf:f.els=true
   ·rw[if_pos hf]at i9
    obtain⟨h',rfl⟩:∃h',h=h'+1:=⟨h-1,by simp only[List.length_cons]at i8;omega⟩
    obtain⟨v,hv,hl1,hl2⟩:=J5U i2
    obtain⟨v0,v1⟩:=i7 v (by rw[JT hv];simp)
    obtain⟨vn,hvn⟩:∃vn:Nat,v=(vn:Int):=⟨v.toNat,by omega⟩
    rw[hl1,hvn,Int.toNat_natCast,hl2]at i4
    have hvl:vn<c.body.length:=by omega
    have hw1:((h'+1:Nat):Int)-1=(h':Int):=by omega
    repeat' first|refine Z1 ?_|refine Z2 ?_|refine Z3 ?_|refine Z5 ?_|refine Yi1 (i:=12) h' rfl hw1 (Nat.lt_succ_self _) ?_|refine Ye1 (i:=12) rfl (J0b hv) ?_|refine Yi1 (i:=10) vn rfl hvn hvl ?_|refine J4t (e:=eNum) (l:=E) (y:=(i:Int)) (i6.symm▸hvl) (fun _=>rfl) rfl rfl rfl rfl rfl ?_|refine Ur (i:=12) h' rfl hw1 (Nat.le_succ _) ?_|refine Ze ?_|refine Zf ?_|refine Zg ?_|refine Zo ?_|refine J6 ?_|refine Jf ?_|refine Zp ?_|refine Zq ?_|refine J5 ?_|refine J8 ?_|refine J3 ?_|refine J4 ?_
    exact⟨(i+1,J,h',O,E.set vn (i:Int)),⟨hil,by simp only;omega,by simp only;omega,i4,i5,by simp only[List.length_set];exact i6,fun v hv=>i7 v (by rw[JT (List.getElem?_eq_getElem (show h'<J.length by omega))];exact List.mem_append_left _ hv),⟨_,_,by rw[J7n];simpa using i8,i9⟩⟩,by(try simp only);omega,Js [(14,14)] rfl rfl rfl ⟨⟨rfl,rfl⟩,⟨rfl,rfl⟩,⟨rfl,rfl⟩,⟨rfl,rfl⟩,⟨rfl,rfl⟩,⟨rfl,rfl⟩,⟨rfl,rfl⟩,⟨rfl,rfl⟩,⟨rfl,rfl⟩,⟨rfl,rfl⟩,⟨rfl,rfl⟩,trivial⟩ ⟨⟨rfl,rfl⟩,⟨rfl,rfl⟩,⟨Jd rfl (by first|exact Jg _ _ _|rfl),Je rfl,Jc _ _ _⟩,⟨Jd rfl (by first|exact Jg _ _ _|rfl),Je rfl,Jc _ _ _⟩,⟨Jd rfl (by first|exact Jg _ _ _|rfl),Je rfl,Jc _ _ _⟩,⟨rfl,rfl⟩,⟨Jd rfl (by first|exact Jg _ _ _|rfl),Je rfl,Jc _ _ _⟩,⟨Jd rfl (by first|exact Jg _ _ _|rfl),Je rfl,Jc _ _ _⟩,⟨Jd rfl (by first|exact Jg _ _ _|rfl),Je rfl,Jc _ _ _⟩,trivial⟩⟩
   ·rw[if_neg hf]at i9;cases i9
 have d6:decide (s.kind=6)=false:=J1 k6
 rw[if_neg k6]at i4 i9
 repeat' first|refine Z1 ?_|refine Z2 ?_|refine Z5 ?_|refine Ze ?_|refine Zf ?_|refine Zo ?_|refine J6 ?_|refine Jf ?_|refine Zp ?_|refine Zq ?_|refine J5 ?_|refine J8 ?_|refine J3 ?_|refine J4 ?_
 exact⟨(i+1,J,h,O,E),⟨hil,i2,by simp only;omega,i4,i5,i6,i7,⟨_,_,by rw[J7n];exact i8,i9⟩⟩,by(try simp only);omega,Js [(14,14)] rfl rfl rfl ⟨⟨rfl,rfl⟩,⟨rfl,rfl⟩,⟨rfl,rfl⟩,⟨rfl,rfl⟩,⟨rfl,rfl⟩,⟨rfl,rfl⟩,⟨rfl,rfl⟩,⟨rfl,rfl⟩,⟨rfl,rfl⟩,⟨rfl,rfl⟩,⟨rfl,rfl⟩,trivial⟩ ⟨⟨rfl,rfl⟩,⟨rfl,rfl⟩,⟨Jd rfl (by first|exact Jg _ _ _|rfl),Je rfl,Jc _ _ _⟩,⟨Jd rfl (by first|exact Jg _ _ _|rfl),Je rfl,Jc _ _ _⟩,⟨Jd rfl (by first|exact Jg _ _ _|rfl),Je rfl,Jc _ _ _⟩,⟨rfl,rfl⟩,⟨Jd rfl (by first|exact Jg _ _ _|rfl),Je rfl,Jc _ _ _⟩,⟨Jd rfl (by first|exact Jg _ _ _|rfl),Je rfl,Jc _ _ _⟩,⟨Jd rfl (by first|exact Jg _ _ _|rfl),Je rfl,Jc _ _ _⟩,trivial⟩⟩
end Go.Pm
