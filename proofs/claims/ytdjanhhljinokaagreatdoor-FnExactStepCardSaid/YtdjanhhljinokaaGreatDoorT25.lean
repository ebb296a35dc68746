/- Part of the proof: Sg3. -/
import Derived.Test.YtdjanhhljinokaaGreatDoorT23
import Derived.Test.YtdjanhhljinokaaGreatDoorT24
import Derived.Test.YtdjanhhljinokaaGreatDoorT11
set_option linter.unusedVariables false
set_option linter.unusedSimpArgs false
namespace Go.Pm
attribute [local irreducible] AR Ok inBlock andThen endQ aoper
set_option maxHeartbeats 8000000
open Go.Proofs
mutual
theorem Jcq {call:CallF} {Z:List Int} {c:Cls} (a:Int):∀(b:Br) (σ:MS),exB call Z c b {σ with n:=σ.n+a}={exB call Z c b σ with n:=(exB call Z c b σ).n+a}
 |.nd s y w,σ=>by
  have e:({F:=σ.F,M:=σ.M,n:=σ.n+a+1}:MS)={{σ with n:=σ.n+1}with n:=({σ with n:=σ.n+1}:MS).n+a}:=by
   show({F:=σ.F,M:=σ.M,n:=σ.n+a+1}:MS)={F:=σ.F,M:=σ.M,n:=σ.n+1+a}
   congr 1;omega
  simp only[exB]
  rw[e]
  split
  ·split
   ·exact J6z a y _
   ·exact J6z a w _
  ·unfold exS
   split
   ·rfl
   split
   ·rfl
   split
   ·unfold exCall
    dsimp only
    have e2:∀b:Int,codeV ⟨σ.F,σ.M,b⟩=codeV ⟨σ.F,σ.M,σ.n+1⟩:=fun b=>rfl
    rw[e2]
    congr 1;omega
   ·rfl
theorem J6z {call:CallF} {Z:List Int} {c:Cls} (a:Int):∀(l:List Br) (σ:MS),exL call Z c l {σ with n:=σ.n+a}={exL call Z c l σ with n:=(exL call Z c l σ).n+a}
 |[],σ=>rfl
 |b::l,σ=>by
  simp only[exL]
  rw[Jcq a b σ]
  exact J6z a l _
end
mutual
theorem J9C {ds ds':List Cls} {Z:List Int} {m:Nat} {c:Cls} (h:∀(g:Nat) (d:Cls),ds[g]? = some d→ds'[g]? = some d):∀b:Br,okB ds Z m c b→okB ds' Z m c b
 |.nd s y w,hb=>by
  simp only[okB]at hb ⊢
  obtain⟨⟨h1,h2,h3⟩,h4,h5⟩:=hb
  refine⟨⟨h1,h2,fun k=>?_⟩,J19 h y h4,J19 h w h5⟩
  obtain⟨a1,a2,a3,p,g,z,d,b1,b2,b3,b4⟩:=h3 k
  exact⟨a1,a2,a3,p,g,z,d,b1,b2,h g d b3,b4⟩
theorem J19 {ds ds':List Cls} {Z:List Int} {m:Nat} {c:Cls} (h:∀(g:Nat) (d:Cls),ds[g]? = some d→ds'[g]? = some d):∀l:List Br,okL ds Z m c l→okL ds' Z m c l
 |[],_=>trivial
 |b::l,hl=>by
  simp only[okL]at hl ⊢
  exact⟨J9C h b hl.1,J19 h l hl.2⟩
end
structure GoodK (cs:List Cls) (Z:List Int) (k:Nat) (c:Cls) (z:Nat):Prop where
 hz:Z[k]? = some (z:Int)
 mem:c.mems.length≤z
 z0:z≤20000
 frm:∀i,i≤c.insts.length→fromZ Z c i≤z
 ins:∀g∈c.insts,∃gn zn:Nat,g=(gn:Int)∧Z[gn]? = some (zn:Int)
 ok:okL (cs.take k) Z z c (forI c)
 nn:brsN (forI c)≤1048576
 li:c.ins.length≤1048576
 lo:c.outs.length≤1048576
 ln:c.insts.length≤1048576
def GoodMM (cs:List Cls) (Z:List Int):Prop:=∀(k:Nat) (c:Cls),cs[k]? = some c→∃z,GoodK cs Z k c z
theorem J2I {cs:List Cls} {Z:List Int}:∀(f:Nat) (g:Nat) (S I:List Int),0≤(stepF cs Z f g S I).2.2
 |0,g,S,I=>Int.le_refl _
 |f+1,g,S,I=>by
  simp only[stepF]
  split
  ·exact Int.le_refl _
  ·rename_i c hc
   exact J20 (J2I f) Z c (forI c) ⟨putAll [] (c.ins.map sNm) I,S,0⟩
theorem J3g {α:Type} {l:List α} {n g:Nat} {x:α} (h:(l.take n)[g]? = some x):g<n∧l[g]? = some x:=by
 rw[List.getElem?_take]at h
 split at h
 ·rename_i hl;exact⟨hl,h⟩
 ·cases h
theorem J2e {cs:List Cls} {k f:Nat} (hkf:k≤f) (g:Nat) (d:Cls) (h:(cs.take k)[g]? = some d):(cs.take f)[g]? = some d:=by
 obtain⟨h1,h2⟩:=J3g h
 rw[List.getElem?_take,if_pos (by omega)];exact h2
theorem J6O (s:ByteArray):inR (rho [] s):=by unfold rho sfind;exact⟨by decide,by decide⟩
theorem J1t {cs:List Cls} {Z:List Int} (hg:GoodMM cs Z):∀f:Nat,CallOK (cs.take f) Z (stepF cs Z f)
 |0=>fun g d z S I h=>by simp at h
 |f+1=>fun g d z S I h hz hS hI hSr hIr=>by
  obtain⟨hgf,hd⟩:=J3g h
  obtain⟨z',k1,k2,k3,k4,k5,k6,k7,k8,k9,k10⟩:=hg g d hd
  have ez:z'=z:=by rw[k1]at hz;have:=Option.some.inj hz;omega
  subst ez
  have:=J1L (m:=z') (J2I f) (J1t hg f) (forI d) ⟨putAll [] (d.ins.map sNm) I,S,0⟩ (J19 (J2e (by omega)) _ k6) ⟨hS,J0x J6O hIr,hSr,Int.le_refl _⟩
  simp only[stepF,hd]
  obtain⟨a1,a2,a3,a4⟩:=this
  refine⟨by rw[a1,hS],by simp,a3,fun v hv=>?_⟩
  obtain⟨o,_,rfl⟩:=List.mem_map.1 hv
  exact a2 _
end Go.Pm
/- Part of the proof: Sh8. -/
namespace Go.Pm
attribute [local irreducible] AR Ok inBlock andThen endQ aoper
set_option maxHeartbeats 8000000
open Go.Proofs
theorem ret3w {X:Cfg} {env:Env} {σ:St} {s t q:Nat} {K:AEnd→St→Prop} {x y z:AV} (h:K (.ret (.tup [x,y,z])) σ) (hx:(env s).force=some x:=by exact rfl) (hy:(env t).force=some y:=by exact rfl) (hz:(env q).force=some z:=by exact rfl):endQ X #[.tmp s,.tmp t,.tmp q].toList K .ret env σ:=by
 rw[←JL hx,←JL hy,←JL hz]at h
 unfold endQ;exact h
structure NmK (c:Cls):Prop where
 nd:(nmsC c).Nodup
 nm:nmL c (forI c)
 gr:growI c.body=some (forI c)
 wc:wCls c≤1048576
 nl:(nmsC c).length≤1048576
theorem J7S {F:List (ByteArray×Int)} {x s:ByteArray} {v:Int} (h:s≠x):rho (sput F x v) s=rho F s:=by unfold rho;rw[JB,if_neg h]
theorem J8a {F:List (ByteArray×Int)} {x:ByteArray} {v:Int}:rho (sput F x v) x=v:=by unfold rho;rw[JB,if_pos rfl];rfl
theorem J2u {s:ByteArray}:∀{xs:List ByteArray} {vs:List Int} {F:List (ByteArray×Int)},s∉xs→rho (putAll F xs vs) s=rho F s
 |[],_,F,_=>rfl
 |x::xs,[],F,_=>rfl
 |x::xs,v::vs,F,h=>by
  simp only[List.mem_cons,not_or]at h
  simp only[putAll]
  rw[J2u h.2,J7S h.1]
theorem J4Q:∀{xs:List ByteArray} {vs:List Int} {F:List (ByteArray×Int)},xs.Nodup→xs.length=vs.length→xs.map (rho (putAll F xs vs))=vs
 |[],[],F,_,_=>rfl
 |x::xs,v::vs,F,hn,hl=>by
  have hn':=List.nodup_cons.1 hn
  simp only[putAll,List.map_cons]
  rw[J2u hn'.1,J8a,J4Q hn'.2 (by simpa using hl)]
theorem J95 {c:Cls} (hn:(nmsC c).Nodup) {I:List Int} (hI:I.length=c.ins.length):vals c (putAll [] (c.ins.map sNm) I)=I++zerosI ((nmsC c).length-I.length):=by
 have hd:(nmsC c)=c.ins.map sNm++(c.outs.map sNm++c.locs):=by unfold nmsC;rw[List.append_assoc]
 have hn2:=hd▸hn
 obtain⟨n1,n2,n3⟩:=List.nodup_append.1 hn2
 unfold vals
 rw[hd,List.map_append,J4Q n1 (by rw[List.length_map,hI])]
 congr 1
 unfold zerosI
 refine List.eq_replicate_iff.2 ⟨by simp only[List.length_map,List.length_append];omega,fun v hv=>?_⟩
 obtain⟨s,hs,rfl⟩:=List.mem_map.1 hv
 rw[J2u (fun h=>n3 s h s hs rfl)]
 rfl
theorem J9u {c:Cls} (F:List (ByteArray×Int)):((vals c F).drop c.ins.length).take c.outs.length=c.outs.map fun o=>rho F o.name:=by
 unfold vals nmsC
 rw[List.append_assoc,List.map_append,List.drop_append_of_le_length (by simp),List.drop_eq_nil_of_le (by simp),List.nil_append,List.map_append,List.take_append_of_le_length (by simp),List.take_of_length_le (by simp),List.map_map]
 rfl
theorem J9H {cs:List Cls} {oth fin:List (List Int)} {Z:List Int} (hG:GoodMM cs Z) (hN:∀(k:Nat) (c:Cls),cs[k]? = some c→NmK c) (ho:oth=cs.map fun c=>(planL c.body).1) (hf:fin=cs.map fun c=>(planL c.body).2):∀f:Nat,WalkC cs (cs.take f) (planD cs oth fin Z) Z (stepF cs Z f)
 |0=>fun g d z S I h=>by simp at h
 |f+1=>fun g c z S I h hz hS hI hSr hIr hcost=>by
  obtain⟨hgf,hd⟩:=J3g h
  obtain⟨z',hK⟩:=hG g c hd
  have ez:z'=z:=by have:=hK.hz;rw[this]at hz;have:=Option.some.inj hz;omega
  subst ez
  have hNc:=hN g c hd
  have hz0:=hK.z0
  have hil:=hK.li
  have hol:=hK.lo
  have hnl:=hNc.nl
  have hnn:(nmsC c).length=c.ins.length+c.outs.length+c.locs.length:=J2P c
  obtain⟨R0,hR0⟩:∃R0,R0=exL (stepF cs Z f) Z c (forI c) ⟨putAll [] (c.ins.map sNm) I,S,0⟩:=⟨_,rfl⟩
  have hRs:stepF cs Z (f+1) g S I=(R0.M,c.outs.map (fun o=>rho R0.F o.name),R0.n):=by simp only[stepF,hd];rw[←hR0]
  rw[hRs]at hcost ⊢
  dsimp only at hcost ⊢
  have hbl:c.body.length≤1048576:=J7H (w:=wSm) (n:=1048576) (by have:=hNc.wc;unfold wCls at this;omega)
  have hsp:=Jao (JJ hNc.gr)
  have hO:oth[g]? = some (planL c.body).1:=by rw[ho,List.getElem?_map,hd];rfl
  have hE:fin[g]? = some (planL c.body).2:=by rw[hf,List.getElem?_map,hd];rfl
  have hσ0:okMS z' ⟨putAll [] (c.ins.map sNm) I,S,0⟩:=⟨hS,J0x J6O hIr,hSr,Int.le_refl _⟩
  have hls:=Jc2 cs (cs.take f) oth fin Z g c hd hnl hNc.nd hbl hK.ln _ _ hO hE z' hK.mem (by omega) (stepF cs Z f) (J2I f) hK.ins hK.frm (J1t hG f) (J9H hG hN ho hf f) c.body.length 0 c.body (forI c) (Nat.le_refl _) hsp [] (by simp) (J19 (J2e (by omega)) _ hK.ok) hNc.nm ⟨putAll [] (c.ins.map sNm) I,S,0⟩ hσ0 (by rw[←hR0];exact hcost)
  rw[←hR0,Nat.zero_add]at hls
  dsimp only at hls
  have hRok:=J1L (cs:=cs.take f) (m:=z') (J2I f) (J1t hG f) (forI c) ⟨putAll [] (c.ins.map sNm) I,S,0⟩ (J19 (J2e (by omega)) _ hK.ok) hσ0
  rw[←hR0]at hRok
  have hkn:(cs.map eNms)[g]? = some (eNms c):=by rw[List.getElem?_map,hd];rfl
  refine Jn Tryz.func67 rfl (by decide) Tryz.ntmps67 Tryz.results67 (by simp) rfl rfl ?_
  repeat' first|refine Z1 ?_|refine Z2 ?_|refine Z5 ?_|refine Ze ?_|refine Zo ?_|refine J6 ?_
  refine Jv (fun q=>q=0∨q=1) [4,6,8] Jp (by decide +kernel) ?_
  repeat' first|refine Wl (i:=0) rfl (.inl rfl) ?_|refine Wl (i:=1) rfl (.inr rfl) ?_|refine Wa ?_
  refine We (Yw (sz:=1) (rows:=[]) (n:=2) ⟨rfl,rfl⟩) (.inr (fun q hq=>if_neg (show ¬q=2 by omega))) ?_
  refine Wa ?_
  refine We (Yl (e:=eNum) (l:=[]) S ⟨rfl,rfl⟩) (.inr (fun q hq=>by rw[J09,if_neg (by omega)])) ?_
  repeat' first|refine Wa ?_
  refine We (Yv ⟨rfl,rfl⟩) (.inr (fun q hq=>if_neg (show ¬q=4 by omega))) ?_
  refine Wa ?_
  refine Wx ?_
  refine JC (J0t 4 3 1 rfl (cs':=[.d (.im (cs.map eCls)),.d (planD cs oth fin Z),vi (g:Int),vs c.name,.d (.im (c.ins.map eSlt)),.d (.im (c.outs.map eSlt)),.d (.im (c.locs.map eStr)),.d (.im (c.mems.map eNum)),.d (.im (c.insts.map eNum)),.d (.im (c.body.map eSm)),.sl 5 5 0 0,.sl 2 3 0 S.length,vi 0]) rfl rfl ⟨.refl _,.refl _,.refl _,.refl _,.refl _,.refl _,.refl _,.refl _,.refl _,.refl _,.nil,.refl _,.refl _,trivial⟩) ?_
  repeat' first|refine Z1 ?_|refine Z2 ?_|refine Z5 ?_|refine Ju ?_|refine Yl (e:=eNum) (l:=[]) I ?_|refine Zo ?_|refine J6 ?_|refine J5 ?_
  refine JX (ι:=List Int) (fun x_=>envL [(1,.d (planD cs oth fin Z)),(2,vi (g:Int)),(13,.ref 1 0),(14,.ref 4 0)]) (fun x_=>stL [some (.var [.d (.im (cs.map eCls))]),some (.var ((eCls c).map .d)),some (.row 3 3 1 (im2 eNum S)),none,some (runV cs (planD cs oth fin Z) g c 5 7 x_.length 2 3 S.length 0),some (.row 7 3 1 (im2 eNum x_)),none,none]) (fun x_=>x_.length≤(nmsC c).length∧∃q,x_=I++zerosI q) (fun x_=>(nmsC c).length-x_.length) I (⟨by rw[hI,hnn];omega,0,by simp[zerosI]⟩) Turn.refl (Js [(7,6)] rfl rfl rfl ⟨⟨rfl,rfl⟩,⟨rfl,rfl⟩,⟨rfl,rfl⟩,⟨rfl,rfl⟩,trivial⟩ ⟨⟨rfl,rfl⟩,⟨rfl,rfl⟩,⟨Jd rfl (by first|exact Jg _ _ _|rfl),Je rfl,Jc _ _ _⟩,⟨rfl,rfl⟩,⟨Jd rfl (by first|exact Jg _ _ _|rfl),Je rfl,Jc _ _ _⟩,trivial⟩) ?_
  rintro V ⟨v1,q,v2⟩
  have hV0:((V.length-0:Nat):Int)=(V.length:Int):=by omega
  by_cases hlt:V.length<(nmsC c).length
  ·have ev:decide ((V.length:Int)<((nmsC c).length:Int))=true:=J0 (by omega)
   repeat' first|refine J6 ?_
   refine Jv (fun _=>True) [] Jp (by decide +kernel) ?_
   repeat' first|refine Wl (i:=4) rfl trivial ?_|refine Wa ?_|refine Wn ?_
   refine Wq (fun τ _=>Yej (e:=eNms) (l:=cs) g rfl hd ⟨rfl,rfl⟩) ?_
   repeat' first|refine Wa ?_|refine Wq (fun τ _=>Zd ⟨rfl,rfl⟩) ?_
   refine Wx ?_
   rw[hV0]
   repeat' first|refine Z1 ?_|refine Z3 ?_|refine Z4 ?_|refine Z5 ?_|refine Ju ?_|refine Yl (e:=eNum) (l:=V) [(0:Int)] ?_|refine Jf ?_|refine Zp ?_|refine J5 ?_|refine J8 ?_|refine J3 ?_|refine J4 ?_
   have hln:V.length+1=(V++[(0:Int)]).length:=by simp
   exact⟨V++[(0:Int)],⟨by rw[←hln];omega,q+1,by rw[v2,List.append_assoc];unfold zerosI;rw[List.replicate_succ']⟩,by(try simp only);omega,Js [(7,9)] rfl rfl rfl ⟨⟨rfl,rfl⟩,⟨rfl,rfl⟩,⟨rfl,rfl⟩,⟨rfl,rfl⟩,trivial⟩ ⟨⟨rfl,rfl⟩,⟨rfl,rfl⟩,⟨Jd rfl (by first|exact Jg _ _ _|rfl),Je rfl,Jc _ _ _⟩,⟨rfl,rfl⟩,⟨Jd rfl (by first|exact Jg _ _ _|rfl),Je rfl,Jc _ _ _⟩,trivial⟩⟩
  have ev:decide ((V.length:Int)<((nmsC c).length:Int))=false:=J1 (by omega)
  have hVv:V=vals c (putAll [] (c.ins.map sNm) I):=by
   rw[J95 hNc.nd hI,v2]
   congr 1
   have:V.length=I.length+q:=by rw[v2];simp[zerosI]
   rw[show(nmsC c).length-I.length=q by omega]
  have hVl:V.length=(nmsC c).length:=by omega
  repeat' first|refine J6 ?_
  refine Jv (fun _=>True) [] Jp (by decide +kernel) ?_
  repeat' first|refine Wl (i:=4) rfl trivial ?_|refine Wa ?_|refine Wn ?_
  refine Wq (fun τ _=>Yej (e:=eNms) (l:=cs) g rfl hd ⟨rfl,rfl⟩) ?_
  repeat' first|refine Wa ?_|refine Wq (fun τ _=>Zd ⟨rfl,rfl⟩) ?_
  refine Wx ?_
  rw[hV0]
  have hemb:=fun(τ:St) q0 q1 q3=>J6p hls (i:=4) (v:=5) (hv:=7) (s:=2) (hs:=3) (by decide) (by decide) (by decide) (τ:=τ) q0 q1 q3
  subst hVv
  rw[hVl]
  have ev:decide (((nmsC c).length:Int)<((nmsC c).length:Int))=false:=J1 (by omega)
  repeat' first|refine Z1 ?_|refine Z2 ?_|refine Z5 ?_|refine Ym (hemb _ rfl rfl rfl) ?_|refine Zd ?_|refine Zo ?_|refine J6 ?_|refine Zq ?_|refine Jh ?_|refine J3 ?_|refine Ja ?_|refine Zv ?_
  have hsum:((c.ins.length:Int)+(c.outs.length:Int))=((c.ins.length+c.outs.length:Nat):Int):=by omega
  refine Jv (fun q=>q=1∨q=4∨q=5) [0,16] Jp (by decide +kernel) ?_
  refine We (Yw (sz:=1) (rows:=[]) (n:=10) ⟨rfl,rfl⟩) (.inr (fun q hq=>if_neg (show ¬q=10 by omega))) ?_
  repeat' first|refine Wl (i:=1) rfl (.inl rfl) ?_|refine Wr (i:=4) rfl (.inr (.inl rfl)) ?_|refine Wa ?_|refine Wn ?_|refine Wq (fun τ _=>Zd ⟨rfl,rfl⟩) ?_
  refine Wq (fun τ _=>Zf ⟨rfl,rfl⟩) ?_
  refine Wq (fun τ h=>J5J (i:=5) c.ins.length (c.ins.length+c.outs.length) rfl hsum (by omega) (by omega) rfl rfl rfl rfl rfl rfl rfl ((h 5 (.inr (.inr rfl))).trans rfl) ⟨rfl,rfl⟩) ?_
  refine We (Utw (i:=10) (k:=5) (w:=7) (e:=eNum) (l:=vals c R0.F) (a:=0+c.ins.length) (b:=0+(c.ins.length+c.outs.length)) (r:=c.outs.map fun o=>rho R0.F o.name) (by rw[Nat.zero_add,Nat.zero_add,Nat.add_sub_cancel_left,J9u]) rfl rfl (by rw[J5a];omega) (fun _=>rfl) (by rw[List.length_map];omega) ⟨rfl,rfl⟩) (.inr (fun q hq=>by rw[J09,if_neg (by omega)])) ?_
  refine Wa ?_
  refine Wx ?_
  repeat' first|refine J6 ?_
  refine Jv (fun _=>True) [] Jp (by decide +kernel) ?_
  repeat' first|refine Wl (i:=4) rfl trivial ?_|refine Wa ?_|refine Wn ?_
  refine Wx ?_
  refine JC (J6l (env':=envL [(10,.d (.im (R0.M.map eNum))),(11,.d (.im ((c.outs.map fun o=>rho R0.F o.name).map eNum))),(12,vi R0.n)]) fun t=>?_) ?_
  ·refine J6k (L:=[(10,.d (.im (R0.M.map eNum))),(11,.d (.im ((c.outs.map fun o=>rho R0.F o.name).map eNum))),(12,vi R0.n)]) ?_ t
   exact⟨.data (J0j (e:=eNum) (i:=8) rfl rfl),.data (J0j (e:=eNum) (i:=10) rfl rfl),J69 _,trivial⟩
  repeat' first|refine Jb ?_
  exact ret3w rfl
end Go.Pm
/- Part of the proof: Sg4. -/
namespace Go.Pm
attribute [local irreducible] AR Ok inBlock andThen endQ aoper
set_option maxHeartbeats 8000000
open Go.Proofs
def rootsF (cs:List Cls):List (List D):=cs.map fun c=>[.im ((forI c).map eBrP)]
theorem J4F {Z:List Int} {c:Cls} {i g z:Nat} (hg:c.insts[i]? = some (g:Int)) (hz:Z[g]? = some (z:Int)):fromZ Z c (i+1)=fromZ Z c i+z:=by
 unfold fromZ
 rw[JT hg,List.map_append,List.sum_append]
 have:(nth Z ((g:Int)).toNat).toNat=z:=by rw[Int.toNat_natCast,J1A hz,Int.toNat_natCast]
 simp only[List.map_cons,List.map_nil,List.sum_cons,List.sum_nil,this];omega
theorem JcE {cs:List Cls} {Z Bd:List Int} {roots:List (List D)} {c:Cls} {fr P Q:List Int} {m:Nat} {call:CallF} {l:List Br} {σ0:MS} (h:AFun X 71 [.d (.im (l.map eBrP)),.ref 0 0,.ref 1 0,.ref 2 0,.ref 3 0,.ref 4 0,.ref 5 0] (stL (doO cs Z Bd roots c fr P Q m σ0)) fun E σ'=>E=.ret (.tup [])∧∀j,j<12→σ'.obj j=((doO cs Z Bd roots c fr P Q m (exL call Z c l σ0))[j]?).join):
  AFun X 71 [.d (.im (l.map eBrP)),.ref 0 0,.ref 1 0,.ref 2 0,.ref 3 0,.ref 4 0,.ref 5 0] (stL (doO cs Z Bd roots c fr P Q m σ0)) fun E σ'=>E=.ret (.tup [])∧σ'=stL (doO cs Z Bd roots c fr P Q m (exL call Z c l σ0)):=by
 refine AFun.low' h ?_
 rintro E σ1 ⟨rfl,h1⟩ hn
 refine⟨_,⟨rfl,rfl⟩,Nat.le_refl _,hn,fun i o ho=>?_,fun r hr=>by cases hr;rfl⟩
 have hi:i<12:=by
  rcases Nat.lt_or_ge i 12 with h|h
  ·exact h
  ·have ho':((doO cs Z Bd roots c fr P Q m (exL call Z c l σ0))[i]?).join=some o:=ho
   rw[List.getElem?_eq_none h]at ho';cases ho'
 exact⟨hi,(h1 i hi).trans ho,J2Q ho⟩
theorem JcC {cs:List Cls} {Z Bd:List Int} {d:Cls} {fr P Q I:List Int} {z':Nat} {call:CallF} {l:List Br} {F:List (ByteArray×Int)} {S:List Int} {n:Int} {R:MS} (hR:R=exL call Z d l ⟨F,S,n⟩) (h:AFun X 71 [.d (.im (l.map eBrP)),.ref 0 0,.ref 1 0,.ref 2 0,.ref 3 0,.ref 4 0,.ref 5 0] (stL (doO cs Z Bd (rootsF cs) d fr P Q z' ⟨F,S,n⟩)) fun E σ'=>E=.ret (.tup [])∧σ'=stL (doO cs Z Bd (rootsF cs) d fr P Q z' (exL call Z d l ⟨F,S,n⟩))):
  AFun X 71 [.d (.im (l.map eBrP)),.ref 5 0,.ref 9 0,.ref 6 0,.ref 13 0,.ref 7 0,.ref 10 0] (stL [some (.var [.d (.im (cs.map eCls)),.d (.ip [.im (Z.map eNum),.im (Bd.map eNum)] 0),.d (.im (rootsF cs)),vi n]),some (.row 2 2 1 (im2 eNum (P++(S++Q)))),none,some (.row 4 2 1 (im2 eNum I)),none,some (.var [.ref 0 0]),some (.var [.sl 1 2 P.length (P.length+z')]),some (.var ((eCls d).map .d)),some (.map .string (smap vi F)),some (.var [.mp 8]),some (.var [.sl 11 12 0 fr.length]),some (.row 12 3 1 (im2 eNum fr)),none,some (.var [.fn 71 [.ref 5 0,.ref 9 0,.ref 6 0,.ref 13 0,.ref 7 0,.ref 10 0]])]) fun E σ'=>E=.ret (.tup [])∧σ'=stL [some (.var [.d (.im (cs.map eCls)),.d (.ip [.im (Z.map eNum),.im (Bd.map eNum)] 0),.d (.im (rootsF cs)),vi R.n]),some (.row 2 2 1 (im2 eNum (P++(R.M++Q)))),none,some (.row 4 2 1 (im2 eNum I)),none,some (.var [.ref 0 0]),some (.var [.sl 1 2 P.length (P.length+z')]),some (.var ((eCls d).map .d)),some (.map .string (smap vi R.F)),some (.var [.mp 8]),some (.var [.sl 11 12 0 fr.length]),some (.row 12 3 1 (im2 eNum fr)),none,some (.var [.fn 71 [.ref 5 0,.ref 9 0,.ref 6 0,.ref 13 0,.ref 7 0,.ref 10 0]])]:=by
 rw[←hR]at h
 unfold doO engV at h
 have h2:=AFun.emb h [5,9,6,13,7,10,0,8,1,2,11,12] rfl (⟨fun e o h1 _=>J0u h1 rfl,⟨fun e o h1 _=>J0u h1 rfl,⟨fun e o h1 _=>J0u h1 rfl,⟨fun e o h1 _=>J0u h1 rfl,⟨fun e o h1 _=>J0u h1 rfl,⟨fun e o h1 _=>J0u h1 rfl,⟨fun e o h1 _=>J0u h1 rfl,⟨fun e o h1 _=>J0u h1 rfl,⟨fun e o h1 _=>J0u h1 rfl,⟨fun e o h1 _=>J0u h1 rfl,trivial⟩⟩⟩⟩⟩⟩⟩⟩⟩⟩) (σ:=stL [some (.var [.d (.im (cs.map eCls)),.d (.ip [.im (Z.map eNum),.im (Bd.map eNum)] 0),.d (.im (rootsF cs)),vi n]),some (.row 2 2 1 (im2 eNum (P++(S++Q)))),none,some (.row 4 2 1 (im2 eNum I)),none,some (.var [.ref 0 0]),some (.var [.sl 1 2 P.length (P.length+z')]),some (.var ((eCls d).map .d)),some (.map .string (smap vi F)),some (.var [.mp 8]),some (.var [.sl 11 12 0 fr.length]),some (.row 12 3 1 (im2 eNum fr)),none,some (.var [.fn 71 [.ref 5 0,.ref 9 0,.ref 6 0,.ref 13 0,.ref 7 0,.ref 10 0]])]) (fun j hj=>by
   match j,hj with
   |0,_=>exact(by decide:5<14)
   |1,_=>exact(by decide:9<14)
   |2,_=>exact(by decide:6<14)
   |3,_=>exact(by decide:13<14)
   |4,_=>exact(by decide:7<14)
   |5,_=>exact(by decide:10<14)
   |6,_=>exact(by decide:0<14)
   |7,_=>exact(by decide:8<14)
   |8,_=>exact(by decide:1<14)
   |9,_=>exact(by decide:2<14)
   |10,_=>exact(by decide:11<14)
   |11,_=>exact(by decide:12<14)
   |j+12,hj=>exact absurd hj (by show ¬j+12<12;omega)) (fun j o hj=>by
   match j,hj with
   |0,hj=>cases hj;exact⟨rfl,rfl⟩
   |1,hj=>cases hj;exact⟨rfl,rfl⟩
   |2,hj=>cases hj;exact⟨rfl,rfl⟩
   |3,hj=>cases hj;exact⟨rfl,rfl⟩
   |4,hj=>cases hj;exact⟨rfl,rfl⟩
   |5,hj=>cases hj;exact⟨rfl,rfl⟩
   |6,hj=>cases hj;exact⟨rfl,rfl⟩
   |7,hj=>cases hj;exact⟨Jt F fun _=>rfl,Jk (fun _=>rfl) _⟩
   |8,hj=>cases hj;exact⟨Jd rfl (Jg _ _ _),by show 9<12;decide,Jc _ _ _⟩
   |9,hj=>cases hj
   |10,hj=>cases hj;exact⟨Jd rfl (Jg _ _ _),by show 11<12;decide,Jc _ _ _⟩
   |11,hj=>cases hj
   |j+12,hj=>simp at hj) rfl
 refine h2.mono ?_
 rintro E σ' ⟨rfl,rfl⟩
 refine⟨rfl,St.ext' (funext fun j=>?_) rfl⟩
 match j with
 |0=>rfl
 |1=>exact(Jd rfl (Jg _ _ _)).symm
 |2=>rfl
 |3=>rfl
 |4=>rfl
 |5=>rfl
 |6=>rfl
 |7=>rfl
 |8=>exact(Jt R.F fun _=>rfl).symm
 |9=>rfl
 |10=>rfl
 |11=>exact(Jd rfl (Jg _ _ _)).symm
 |12=>rfl
 |13=>rfl
 |j+14=>
  refine(J22 (by show 12≤12;omega) (by show 14+(12-12)≤j+14;omega)).trans ?_
  rfl
theorem J9R {cs:List Cls} {Z Bd:List Int} (hG:GoodMM cs Z) (hcl:cs.length≤1048576):∀f:Nat,StepC cs (cs.take f) Z Bd (rootsF cs) (stepF cs Z f)
 |0=>fun g d z P S Q I n h=>by simp at h
 |f+1=>fun g d z P S Q I n h hz hS hI hP hSr hQ hIr hn hb hPl=>by
  obtain⟨hgf,hd⟩:=J3g h
  obtain⟨z',hK⟩:=hG g d hd
  have ez:z'=z:=by have:=hK.hz;rw[this]at hz;have:=Option.some.inj hz;omega
  subst ez
  obtain⟨R0,hR0⟩:∃R0,R0=exL (stepF cs Z f) Z d (forI d) ⟨(putAll [] (d.ins.map sNm) I),S,0⟩:=⟨_,rfl⟩
  have hRs:stepF cs Z (f+1) g S I=(R0.M,d.outs.map (fun o=>rho R0.F o.name),R0.n):=by simp only[stepF,hd];rw[←hR0]
  rw[hRs]at hb
  dsimp only at hb
  have hR1:exL (stepF cs Z f) Z d (forI d) ⟨(putAll [] (d.ins.map sNm) I),S,n⟩={R0 with n:=R0.n+n}:=by
   have:=J6z (call:=stepF cs Z f) (Z:=Z) (c:=d) n (forI d) ⟨(putAll [] (d.ins.map sNm) I),S,0⟩
   rw[←hR0]at this
   simpa using this
  have hdo:=JcE (JcF cs (cs.take f) Z Bd (rootsF cs) d ((List.range d.insts.length).map fun i=>(fromZ Z d i:Int)) P Q z' ⟨hP,hQ⟩ hK.mem hPl rfl (stepF cs Z f) (J2I f) (J1t hG f) (J9R hG hcl f) _ (forI d) rfl hK.nn (J19 (J2e (by omega)) _ hK.ok) ⟨(putAll [] (d.ins.map sNm) I),S,n⟩ ⟨hS,J0x J6O hIr,hSr,hn⟩ (by rw[hR1];dsimp only;omega))
  have hdoa:=JcC hR1.symm hdo (I:=I)
  dsimp only at hdoa
  rw[hRs]
  dsimp only
  refine AFun.lowE (K:=fun E σ'=>E=.ret (.sl 14 15 0 (d.outs.map (fun o=>rho R0.F o.name)).length)∧σ'.obj 0=some (engV cs Z Bd (rootsF cs) (n+R0.n))∧σ'.obj 1=some (.row 2 2 1 (im2 eNum (P++(R0.M++Q))))∧σ'.obj 3=some (.row 4 2 1 (im2 eNum I))∧σ'.obj 14=some (.row 15 2 1 (im2 eNum (d.outs.map (fun o=>rho R0.F o.name))))) ?_ [(5,14),(6,15)] rfl rfl rfl rfl ?_
  ·have hil:d.ins.length≤1048576:=hK.li
   have hol:d.outs.length≤1048576:=hK.lo
   have hnl:d.insts.length≤1048576:=hK.ln
   refine Jw Tryz.func33 rfl (by decide) Tryz.ntmps33 Tryz.results33 (by simp) ?_
   unfold engV
   repeat' first|refine Z1 ?_|refine Z2 ?_|refine Z5 ?_|refine Ju ?_|refine Yd ?_|refine Zd ?_|refine Ze ?_|refine Zo ?_|refine J6 ?_|refine J5 ?_
   refine Jq (ι:=Nat×List (ByteArray×Int)) (fun x_=>envL [(1,vi (g:Int)),(3,.sl 3 4 0 I.length),(4,.ref 5 0),(6,.ref 6 0),(8,.d (.s (.slice none 0 0))),(9,.ref 7 0),(10,.ref 9 0),(31,.d (.im (d.ins.map eSlt))),(32,vi d.ins.length),(33,vi x_.1)]) (fun x_=>stL [some (.var [.d (.im (cs.map eCls)),.d (.ip [.im (Z.map eNum),.im (Bd.map eNum)] 0),.d (.im (rootsF cs)),vi n]),some (.row 2 2 1 (im2 eNum (P++(S++Q)))),none,some (.row 4 2 1 (im2 eNum I)),none,some (.var [.ref 0 0]),some (.var [.sl 1 2 P.length (P.length+z')]),some (.var ((eCls d).map .d)),some (.map .string (smap vi x_.2)),some (.var [.mp 8])]) (fun x_=>x_.1≤d.ins.length∧putAll x_.2 ((d.ins.map sNm).drop x_.1) (I.drop x_.1)=(putAll [] (d.ins.map sNm) I)) (fun x_=>d.ins.length-x_.1) (0,[]) (⟨Nat.zero_le _,rfl⟩) (Jj rfl ⟨.refl _,.refl _,.refl _,.refl _,.refl _,.refl _,.refl _,.refl _,.refl _,.refl _,trivial⟩ ⟨⟨rfl,_,rfl,rfl,fun _ _ _=>.refl _⟩,⟨rfl,_,rfl,rfl,rfl,rfl,rfl⟩,⟨rfl,_,rfl,rfl,rfl,rfl,rfl⟩,⟨rfl,_,rfl,rfl,fun _ _ _=>.refl _⟩,⟨rfl,_,rfl,rfl,fun _ _ _=>.refl _⟩,⟨rfl,_,rfl,rfl,fun _ _ _=>.refl _⟩,⟨rfl,_,rfl,rfl,rfl⟩,⟨rfl,_,rfl,rfl,fun _ _ _=>.refl _⟩,trivial⟩) (fun _=>Nat.le_refl 10) ?_
   rintro⟨j,F⟩ ⟨j1,j2⟩
   simp only at j1 j2
   show Ok _ _ _ _ (envL [(1,vi (g:Int)),(3,.sl 3 4 0 I.length),(4,.ref 5 0),(6,.ref 6 0),(8,.d (.s (.slice none 0 0))),(9,.ref 7 0),(10,.ref 9 0),(31,.d (.im (d.ins.map eSlt))),(32,vi d.ins.length),(33,vi j)]) (stL [some (.var [.d (.im (cs.map eCls)),.d (.ip [.im (Z.map eNum),.im (Bd.map eNum)] 0),.d (.im (rootsF cs)),vi n]),some (.row 2 2 1 (im2 eNum (P++(S++Q)))),none,some (.row 4 2 1 (im2 eNum I)),none,some (.var [.ref 0 0]),some (.var [.sl 1 2 P.length (P.length+z')]),some (.var ((eCls d).map .d)),some (.map .string (smap vi F)),some (.var [.mp 8])])
   rcases hy:d.ins[j]? with _|s
   rotate_left
   ·obtain⟨hd3,hlt3⟩:=Ji hy
    have ej:decide ((j:Int)<(d.ins.length:Int))=true:=J0 (by omega)
    obtain⟨v,hv⟩:∃v,I[j]? = some v:=⟨_,List.getElem?_eq_getElem (by omega)⟩
    obtain⟨hd4,hlt4⟩:=Ji hv
    rw[←List.map_drop,hd3,hd4]at j2
    simp only[List.map_cons,putAll]at j2
    repeat' first|refine Z1 ?_|refine Z2 ?_|refine Z5 ?_|refine Ze ?_|refine Zo ?_|refine J6 ?_|refine Zp ?_|refine J5 ?_|refine J8 ?_|refine J3 ?_
    refine Jv (fun _=>True) [7] Jp (by decide +kernel) ?_
    repeat' first|refine Wl (i:=9) rfl trivial ?_|refine Wl (i:=10) rfl trivial ?_|refine Wa ?_
    refine Wq (fun τ h=>Yi1 (i:=3) j ((h 3 trivial).trans rfl) rfl hlt4 ⟨rfl,rfl⟩) ?_
    refine Wq (fun τ h=>Ye1 (i:=3) ((h 3 trivial).trans rfl) (J0b hv) ⟨rfl,rfl⟩) ?_
    refine We (Yc (F:=F) (e:=vi) (b:=v) (i:=8) ⟨rfl,rfl⟩) (.inl rfl) ?_
    refine Wy ?_
    repeat' first|refine Z1 ?_|refine Z2 ?_|refine Z5 ?_|refine Zf ?_|refine Jf ?_|refine J3 ?_|refine J4 ?_
    exact⟨(j+1,sput F s.name v),⟨hlt3,by rw[←List.map_drop];exact j2⟩,by(try simp only);omega,Jl (Nat.le_of_ble_eq_true rfl) ⟨⟨rfl,rfl⟩,⟨rfl,rfl⟩,⟨rfl,rfl⟩,⟨rfl,rfl⟩,⟨rfl,rfl⟩,⟨rfl,rfl⟩,⟨rfl,rfl⟩,⟨rfl,rfl⟩,⟨rfl,rfl⟩,⟨rfl,rfl⟩,trivial⟩ ⟨⟨rfl,rfl⟩,⟨rfl,Je rfl,Jc _ _ _⟩,⟨rfl,Je rfl,Jc _ _ _⟩,⟨rfl,rfl⟩,⟨rfl,rfl⟩,⟨rfl,rfl⟩,⟨rfl,Jk (fun _=>rfl) _⟩,⟨rfl,rfl⟩,trivial⟩⟩
   have hge:=Jo hy
   have ej:decide ((j:Int)<(d.ins.length:Int))=false:=J1 (by omega)
   have hF:F=(putAll [] (d.ins.map sNm) I):=by rw[←j2,←List.map_drop,List.drop_eq_nil_of_le hge];cases I.drop j<;>rfl
   subst hF
   repeat' first|refine Z1 ?_|refine Z2 ?_|refine Z5 ?_|refine Zd ?_|refine Zo ?_|refine J6 ?_|refine Zq ?_|refine J5 ?_|refine Jh ?_|refine J3 ?_|refine Ja ?_|refine Zv ?_
   refine JC (J0t 10 3 1 rfl (cs':=[.sl 11 11 0 0]) rfl rfl ⟨.nil,trivial⟩) ?_
   refine JX (ι:=Nat×List Int) (fun x_=>envL [(1,vi (g:Int)),(3,.sl 3 4 0 I.length),(4,.ref 5 0),(6,.ref 6 0),(8,.d (.s (.slice none 0 0))),(9,.ref 7 0),(10,.ref 9 0),(13,.ref 10 0),(14,vi (fromZ Z d x_.1:Int)),(50,.d (.im (d.insts.map eNum))),(51,vi d.insts.length),(52,vi x_.1)]) (fun x_=>stL [some (.var [.d (.im (cs.map eCls)),.d (.ip [.im (Z.map eNum),.im (Bd.map eNum)] 0),.d (.im (rootsF cs)),vi n]),some (.row 2 2 1 (im2 eNum (P++(S++Q)))),none,some (.row 4 2 1 (im2 eNum I)),none,some (.var [.ref 0 0]),some (.var [.sl 1 2 P.length (P.length+z')]),some (.var ((eCls d).map .d)),some (.map .string (smap vi (putAll [] (d.ins.map sNm) I))),some (.var [.mp 8]),some (.var [.sl 11 12 0 x_.2.length]),some (.row 12 3 1 (im2 eNum x_.2)),none]) (fun x_=>x_.1≤d.insts.length∧x_.2=(List.range x_.1).map (fun i=>(fromZ Z d i:Int))) (fun x_=>d.insts.length-x_.1) (0,[]) (⟨Nat.zero_le _,rfl⟩) Turn.refl (Js [(12,11)] rfl rfl rfl ⟨⟨rfl,rfl⟩,⟨rfl,rfl⟩,⟨rfl,rfl⟩,⟨rfl,rfl⟩,⟨rfl,rfl⟩,⟨rfl,rfl⟩,⟨rfl,rfl⟩,⟨rfl,rfl⟩,⟨rfl,rfl⟩,⟨rfl,rfl⟩,⟨rfl,rfl⟩,⟨rfl,rfl⟩,trivial⟩ ⟨⟨rfl,rfl⟩,⟨Jd rfl (by first|exact Jg _ _ _|rfl),Je rfl,Jc _ _ _⟩,⟨Jd rfl (by first|exact Jg _ _ _|rfl),Je rfl,Jc _ _ _⟩,⟨rfl,rfl⟩,⟨rfl,rfl⟩,⟨rfl,rfl⟩,⟨by first|exact Jt _ (fun _=>rfl)|rfl,Jk (fun _=>rfl) _⟩,⟨rfl,rfl⟩,⟨rfl,rfl⟩,⟨Jd rfl (by first|exact Jg _ _ _|rfl),Je rfl,Jc _ _ _⟩,trivial⟩) ?_
   rintro⟨j,L⟩ ⟨j1,j2⟩
   simp only at j1 j2
   show Ok _ _ _ _ (envL [(1,vi (g:Int)),(3,.sl 3 4 0 I.length),(4,.ref 5 0),(6,.ref 6 0),(8,.d (.s (.slice none 0 0))),(9,.ref 7 0),(10,.ref 9 0),(13,.ref 10 0),(14,vi (fromZ Z d j:Int)),(50,.d (.im (d.insts.map eNum))),(51,vi d.insts.length),(52,vi j)]) (stL [some (.var [.d (.im (cs.map eCls)),.d (.ip [.im (Z.map eNum),.im (Bd.map eNum)] 0),.d (.im (rootsF cs)),vi n]),some (.row 2 2 1 (im2 eNum (P++(S++Q)))),none,some (.row 4 2 1 (im2 eNum I)),none,some (.var [.ref 0 0]),some (.var [.sl 1 2 P.length (P.length+z')]),some (.var ((eCls d).map .d)),some (.map .string (smap vi (putAll [] (d.ins.map sNm) I))),some (.var [.mp 8]),some (.var [.sl 11 12 0 L.length]),some (.row 12 3 1 (im2 eNum L)),none])
   have hLl:L.length=j:=by rw[j2];simp
   rcases hy:d.insts[j]? with _|gg
   rotate_left
   ·obtain⟨_,hlt3⟩:=Ji hy
    have ej:decide ((j:Int)<(d.insts.length:Int))=true:=J0 (by omega)
    obtain⟨gn,zn,e1,e2⟩:=hK.ins gg (List.mem_of_getElem? hy)
    subst e1
    have hsu:=J4F hy e2
    have hfb:=hK.frm (j+1) (by omega)
    have hz0:=hK.z0
    have hsum:(fromZ Z d j:Int)+(zn:Int)=((fromZ Z d (j+1):Nat):Int):=by omega
    repeat' first|refine Z1 ?_|refine Z2 ?_|refine Z3 ?_|refine Z4 ?_|refine Z5 ?_|refine Ju ?_|refine Yl (e:=eNum) (l:=L) [(fromZ Z d j:Int)] ?_|refine Ze ?_|refine Zf ?_|refine Zo ?_|refine J6 ?_|refine Jf ?_|refine Zp ?_|refine J5 ?_|refine J8 ?_|refine J3 ?_|refine J4 ?_
    rw[hsum]
    exact⟨(j+1,L++[(fromZ Z d j:Int)]),⟨hlt3,by rw[j2,List.range_succ,List.map_append];rfl⟩,by(try simp only);omega,Js [(12,14)] rfl rfl rfl ⟨⟨rfl,rfl⟩,⟨rfl,rfl⟩,⟨rfl,rfl⟩,⟨rfl,rfl⟩,⟨rfl,rfl⟩,⟨rfl,rfl⟩,⟨rfl,rfl⟩,⟨rfl,rfl⟩,⟨rfl,rfl⟩,⟨rfl,rfl⟩,⟨rfl,rfl⟩,⟨rfl,rfl⟩,trivial⟩ ⟨⟨rfl,rfl⟩,⟨Jd rfl (by first|exact Jg _ _ _|rfl),Je rfl,Jc _ _ _⟩,⟨Jd rfl (by first|exact Jg _ _ _|rfl),Je rfl,Jc _ _ _⟩,⟨rfl,rfl⟩,⟨rfl,rfl⟩,⟨rfl,rfl⟩,⟨by first|exact Jt _ (fun _=>rfl)|rfl,Jk (fun _=>rfl) _⟩,⟨rfl,rfl⟩,⟨rfl,rfl⟩,⟨Jd rfl (by first|exact Jg _ _ _|rfl),Je rfl,Jc _ _ _⟩,trivial⟩⟩
   have hge:=Jo hy
   have ej:decide ((j:Int)<(d.insts.length:Int))=false:=J1 (by omega)
   have hjl:j=d.insts.length:=by omega
   subst hjl
   subst j2
   have hel:(rootsF cs)[g]? = some [.im ((forI d).map eBrP)]:=by unfold rootsF;rw[List.getElem?_map,hd];rfl
   have hroots:rootsF cs=cs.map fun c=>[D.im ((forI c).map eBrP)]:=rfl
   repeat' first|refine Z1 ?_|refine Z2 ?_|refine Z5 ?_|refine Yq ?_|refine Zo ?_|refine J6 ?_|refine Zq ?_|refine Jh ?_|refine J3 ?_|refine Ja ?_|refine Zv ?_
   refine JC (env':=envL [(1,vi (g:Int)),(4,.ref 5 0),(9,.ref 7 0),(10,.ref 9 0),(17,.ref 13 0)]) (σ':=stL [some (.var [.d (.im (cs.map eCls)),.d (.ip [.im (Z.map eNum),.im (Bd.map eNum)] 0),.d (.im (rootsF cs)),vi n]),some (.row 2 2 1 (im2 eNum (P++(S++Q)))),none,some (.row 4 2 1 (im2 eNum I)),none,some (.var [.ref 0 0]),some (.var [.sl 1 2 P.length (P.length+z')]),some (.var ((eCls d).map .d)),some (.map .string (smap vi (putAll [] (d.ins.map sNm) I))),some (.var [.mp 8]),some (.var [.sl 11 12 0 ((List.range d.insts.length).map fun i=>(fromZ Z d i:Int)).length]),some (.row 12 3 1 (im2 eNum ((List.range d.insts.length).map fun i=>(fromZ Z d i:Int)))),none,some (.var [.fn 71 [.ref 5 0,.ref 9 0,.ref 6 0,.ref 13 0,.ref 7 0,.ref 10 0]])]) (Jj rfl ⟨.refl _,.refl _,.refl _,.refl _,.refl _,trivial⟩ ⟨⟨rfl,_,rfl,rfl,fun _ _ _=>.refl _⟩,⟨rfl,_,rfl,rfl,rfl,rfl,rfl⟩,⟨rfl,_,rfl,rfl,rfl,rfl,rfl⟩,⟨rfl,_,rfl,rfl,fun _ _ _=>.refl _⟩,⟨rfl,_,rfl,rfl,fun _ _ _=>.refl _⟩,⟨rfl,_,rfl,rfl,fun _ _ _=>.refl _⟩,⟨rfl,_,rfl,rfl,rfl⟩,⟨rfl,_,rfl,rfl,fun _ _ _=>.refl _⟩,⟨rfl,_,rfl,rfl,fun _ _ _=>.refl _⟩,⟨rfl,_,rfl,rfl,rfl,rfl,rfl⟩,⟨rfl,_,rfl,rfl,fun _ _ _=>.refl _⟩,trivial⟩) ?_
   refine Jv (fun _=>True) [8] Jp (by decide +kernel) ?_
   repeat' first|refine Wl (i:=13) rfl trivial ?_|refine Wl (i:=5) rfl trivial ?_|refine Wl (i:=0) rfl trivial ?_|refine Wa ?_|refine Wn ?_
   refine Wq (fun τ h=>Yej (e:=fun c=>[D.im ((forI c).map eBrP)]) (l:=cs) g rfl hd ⟨rfl,rfl⟩) ?_
   repeat' first|refine Wa ?_
   refine We (Yp hdoa ⟨rfl,rfl⟩) (.inl rfl) ?_
   refine Wy ?_
   repeat' first|refine Z1 ?_|refine Z2 ?_|refine Z5 ?_|refine Zd ?_|refine Zo ?_|refine J6 ?_|refine J5 ?_|refine J3 ?_
   refine JC (J2j 18 2 1 rfl) ?_
   refine JX (ι:=Nat×List Int) (fun x_=>envL [(9,.ref 7 0),(10,.ref 9 0),(18,.sl 14 15 0 x_.2.length),(84,.d (.im (d.outs.map eSlt))),(85,vi d.outs.length),(86,vi x_.1)]) (fun x_=>stL [some (.var [.d (.im (cs.map eCls)),.d (.ip [.im (Z.map eNum),.im (Bd.map eNum)] 0),.d (.im (rootsF cs)),vi (R0.n+n)]),some (.row 2 2 1 (im2 eNum (P++(R0.M++Q)))),none,some (.row 4 2 1 (im2 eNum I)),none,some (.var [.ref 0 0]),some (.var [.sl 1 2 P.length (P.length+z')]),some (.var ((eCls d).map .d)),some (.map .string (smap vi R0.F)),some (.var [.mp 8]),some (.var [.sl 11 12 0 ((List.range d.insts.length).map fun i=>(fromZ Z d i:Int)).length]),some (.row 12 3 1 (im2 eNum ((List.range d.insts.length).map fun i=>(fromZ Z d i:Int)))),none,some (.var [.fn 71 [.ref 5 0,.ref 9 0,.ref 6 0,.ref 13 0,.ref 7 0,.ref 10 0]]),some (.row 15 2 1 (im2 eNum x_.2)),none]) (fun x_=>x_.1≤d.outs.length∧x_.2=(d.outs.take x_.1).map (fun o=>rho R0.F o.name)) (fun x_=>d.outs.length-x_.1) (0,[]) (⟨Nat.zero_le _,rfl⟩) Turn.refl (Js [(15,14)] rfl rfl rfl ⟨⟨rfl,rfl⟩,⟨rfl,rfl⟩,⟨rfl,rfl⟩,⟨rfl,rfl⟩,⟨rfl,rfl⟩,⟨rfl,rfl⟩,trivial⟩ ⟨⟨rfl,rfl⟩,⟨Jd rfl (by first|exact Jg _ _ _|rfl),Je rfl,Jc _ _ _⟩,⟨Jd rfl (by first|exact Jg _ _ _|rfl),Je rfl,Jc _ _ _⟩,⟨rfl,rfl⟩,⟨rfl,rfl⟩,⟨rfl,rfl⟩,⟨by first|exact Jt _ (fun _=>rfl)|rfl,Jk (fun _=>rfl) _⟩,⟨rfl,rfl⟩,⟨rfl,rfl⟩,⟨Jd rfl (by first|exact Jg _ _ _|rfl),Je rfl,Jc _ _ _⟩,⟨rfl,rfl⟩,⟨Jd rfl (by first|exact Jg _ _ _|rfl),Je rfl,Jc _ _ _⟩,trivial⟩) ?_
   rintro⟨j,L⟩ ⟨j1,j2⟩
   simp only at j1 j2
   show Ok _ _ _ _ (envL [(9,.ref 7 0),(10,.ref 9 0),(18,.sl 14 15 0 L.length),(84,.d (.im (d.outs.map eSlt))),(85,vi d.outs.length),(86,vi j)]) (stL [some (.var [.d (.im (cs.map eCls)),.d (.ip [.im (Z.map eNum),.im (Bd.map eNum)] 0),.d (.im (rootsF cs)),vi (R0.n+n)]),some (.row 2 2 1 (im2 eNum (P++(R0.M++Q)))),none,some (.row 4 2 1 (im2 eNum I)),none,some (.var [.ref 0 0]),some (.var [.sl 1 2 P.length (P.length+z')]),some (.var ((eCls d).map .d)),some (.map .string (smap vi R0.F)),some (.var [.mp 8]),some (.var [.sl 11 12 0 ((List.range d.insts.length).map fun i=>(fromZ Z d i:Int)).length]),some (.row 12 3 1 (im2 eNum ((List.range d.insts.length).map fun i=>(fromZ Z d i:Int)))),none,some (.var [.fn 71 [.ref 5 0,.ref 9 0,.ref 6 0,.ref 13 0,.ref 7 0,.ref 10 0]]),some (.row 15 2 1 (im2 eNum L)),none])
   have hLl:L.length=j:=by rw[j2,List.length_map,List.length_take];omega
   rcases hy:d.outs[j]? with _|s
   rotate_left
   ·obtain⟨_,hlt3⟩:=Ji hy
    have ej:decide ((j:Int)<(d.outs.length:Int))=true:=J0 (by omega)
    repeat' first|refine Z1 ?_|refine Z2 ?_|refine Z3 ?_|refine Z4 ?_|refine Z5 ?_|refine Yb (F:=R0.F) (e:=vi) (d0:=0) (i:=8) ?_|refine Yl (e:=eNum) (l:=L) [rho R0.F s.name] ?_|refine Ze ?_|refine Zf ?_|refine Zo ?_|refine J6 ?_|refine Jf ?_|refine Zp ?_|refine J5 ?_|refine J8 ?_|refine J3 ?_|refine J4 ?_
    exact⟨(j+1,L++[rho R0.F s.name]),⟨hlt3,by rw[j2,JT hy,List.map_append];rfl⟩,by(try simp only);omega,Js [(15,18)] rfl rfl rfl ⟨⟨rfl,rfl⟩,⟨rfl,rfl⟩,⟨rfl,rfl⟩,⟨rfl,rfl⟩,⟨rfl,rfl⟩,⟨rfl,rfl⟩,trivial⟩ ⟨⟨rfl,rfl⟩,⟨Jd rfl (by first|exact Jg _ _ _|rfl),Je rfl,Jc _ _ _⟩,⟨Jd rfl (by first|exact Jg _ _ _|rfl),Je rfl,Jc _ _ _⟩,⟨rfl,rfl⟩,⟨rfl,rfl⟩,⟨rfl,rfl⟩,⟨by first|exact Jt _ (fun _=>rfl)|rfl,Jk (fun _=>rfl) _⟩,⟨rfl,rfl⟩,⟨rfl,rfl⟩,⟨Jd rfl (by first|exact Jg _ _ _|rfl),Je rfl,Jc _ _ _⟩,⟨rfl,rfl⟩,⟨Jd rfl (by first|exact Jg _ _ _|rfl),Je rfl,Jc _ _ _⟩,trivial⟩⟩
   have hge:=Jo hy
   have ej:decide ((j:Int)<(d.outs.length:Int))=false:=J1 (by omega)
   have hL:L=d.outs.map (fun o=>rho R0.F o.name):=by rw[j2,List.take_of_length_le hge]
   subst hL
   repeat' first|refine Z1 ?_|refine Z2 ?_|refine Zo ?_|refine J6 ?_|refine Zq ?_|refine Jh ?_|refine Jb ?_|refine J3 ?_|refine Ja ?_|refine Zv ?_|refine Zt ?_
   exact⟨rfl,by rw[Int.add_comm n];rfl,rfl,rfl,rfl⟩
  ·rintro E σ1 ⟨rfl,h0,h1,h3,h14⟩
   refine⟨rfl,⟨h0,rfl⟩,⟨h1.trans (Jd rfl (Jg _ _ _)),by show 2<7;decide,Jc _ _ _⟩,⟨h3.trans (Jd rfl (Jg _ _ _)),by show 4<7;decide,Jc _ _ _⟩,⟨h14.trans (Jd rfl (Jg _ _ _)),by show 6<7;decide,Jc _ _ _⟩,trivial⟩
end Go.Pm
