/- Part of the proof: Sh3. -/
import Derived.Test.YtdjanhhljinokaaGreatDoorT21
import Derived.Test.YtdjanhhljinokaaGreatDoorT13
import Derived.Test.YtdjanhhljinokaaGreatDoorT22
import Derived.Test.YtdjanhhljinokaaGreatDoorT11
set_option linter.unusedVariables false
set_option linter.unusedSimpArgs false
namespace Go.Pm
attribute [local irreducible] AR Ok inBlock andThen endQ aoper
set_option maxHeartbeats 8000000
open Go.Proofs
theorem J6o {k:Tm}:∀{ks:List Tm},wfL ks→k∈ks→wfT k
 |t::ts,hw,h=>by
  have hw':wfT t∧wfL ts:=by simpa only[wfL]using hw
  rcases List.mem_cons.1 h with rfl|h
  ·exact hw'.1
  ·exact J6o hw'.2 h
theorem J8k {l:List Int} {i:Nat} {v:Int} (h:l[i]? = some v):nth l i=v:=by unfold nth;rw[List.getD_eq_getElem?_getD,h];rfl
theorem JbU (l:List Itm) (hll:l.length≤1048576) (t:Tm) (hw:wfT t) (P R:List Itm) (hl:l=P++(flat t++R)):PFun X 189 [.d (.im (l.map eItm)),vi ((P.length+(flat t).length:Nat):Int)] (vi ((P.length:Nat):Int)):=by
 have hb:=J8g hw hl
 have hle:P.length+(flat t).length≤l.length:=by rw[hl];simp only[List.length_append];omega
 have:=J3x l _ hle hll
 rw[hb]at this
 exact this
theorem J9a {op:Int} {L:List Int} (h4:4≤op) (h20:op≤20) (hl:(L.length:Int)=sarityI op) (hr:∀v∈L,inR v):PFun X 190 [vi op,.d (.im (L.map eNum))] (vi (apV op L)):=by
 unfold sarityI at hl
 rw[if_neg (by omega)]at hl
 by_cases h5:op≤5
 ·rw[if_pos (by omega)]at hl
  match L,hl,hr with
  |[a],_,hr=>exact JaX op a (by omega) (hr a (by simp))
  |[],hl,_=>simp at hl
  |_::_::_,hl,_=>simp only[List.length_cons]at hl;omega
 rw[if_neg (by omega)]at hl
 by_cases h19:op≤19
 ·rw[if_pos (by omega)]at hl
  match L,hl,hr with
  |[a,b],_,hr=>exact Jb9 op a b (by omega) h19 (hr a (by simp)) (hr b (by simp))
  |[],hl,_=>simp at hl
  |[_],hl,_=>simp at hl
  |_::_::_::_,hl,_=>simp only[List.length_cons]at hl;omega
 rw[if_neg (by omega),if_pos (by omega)]at hl
 match L,hl with
 |[a,b,c],_=>exact Jbp op a b c (by omega)
 |[],hl=>simp at hl
 |[_],hl=>simp at hl
 |[_,_],hl=>simp at hl
 |_::_::_::_::_,hl=>simp only[List.length_cons]at hl;omega
def rnO (cs:List Cls) (pl:D) (k:Nat) (c:Cls) (F:List (ByteArray×Int)) (M:List Int) (n:Int):List (Option AO):=
 [some (runV cs pl k c 1 2 (nmsC c).length 3 4 M.length n),some (.row 2 3 1 (im2 eNum (vals c F))),none,some (.row 4 3 1 (im2 eNum M)),none]
theorem J4Z {cs:List Cls} {pl:D} {k:Nat} {c:Cls} {F:List (ByteArray×Int)} {M:List Int} {n:Int} {j:Nat} {o:AO} (h:((rnO cs pl k c F M n)[j]?).join=some o):j<5∧o.low 5:=by
 unfold rnO runV at h
 match j,h with
 |0,h=>cases h;exact⟨by decide,rfl⟩
 |1,h=>cases h;exact⟨by decide,by decide,Jc _ _ _⟩
 |2,h=>cases h
 |3,h=>cases h;exact⟨by decide,by decide,Jc _ _ _⟩
 |4,h=>cases h
 |j+5,h=>simp at h
theorem J24 {cs:List Cls} {pl:D} {k:Nat} {c:Cls} {F:List (ByteArray×Int)} {M:List Int} {n:Int} {σ:St} (h0:σ.obj 0=some (runV cs pl k c 1 2 (nmsC c).length 3 4 M.length n)) (h1:σ.obj 1=some (.row 2 3 1 (im2 eNum (vals c F)))) (h3:σ.obj 3=some (.row 4 3 1 (im2 eNum M))):
  ∀j o,(stL (rnO cs pl k c F M n)).obj j=some o→σ.obj j=some o:=by
 intro j o h
 have h:((rnO cs pl k c F M n)[j]?).join=some o:=h
 unfold rnO at h
 match j,h with
 |0,h=>cases h;exact h0
 |1,h=>cases h;exact h1
 |2,h=>cases h
 |3,h=>cases h;exact h3
 |4,h=>cases h
 |j+5,h=>simp at h
theorem J4z (ks:List Tm) (q:Nat) (kt:Tm) (h:ks[q]? = some kt):ks=ks.take q++kt::ks.drop (q+1):=by
 have h2:=(Ji h).1
 rw[←h2,List.take_append_drop]
theorem JbW (cs:List Cls) (oth fin:List (List Int)) (Z:List Int) (k:Nat) (c:Cls) (hk:cs[k]? = some c) (hnl:(nmsC c).length≤1048576) (F:List (ByteArray×Int)) (M:List Int) (n:Int) (hmem:c.mems.length≤M.length) (hF:∀s,inR (rho F s)) (hM:∀v∈M,inR v) (l:List Itm) (hll:l.length≤1048576):
  ∀(N:Nat) (t:Tm),(flat t).length≤N→wfT t→(∀x∈flat t,okM c.mems.length x∧(x.op=3→x.name∈nmsC c))→∀(P R:List Itm),l=P++(flat t++R)→
  AFun X 156 [.ref 0 0,.d (.im (l.map eItm)),vi ((P.length+(flat t).length:Nat):Int)] (stL (rnO cs (planD cs oth fin Z) k c F M n)) fun E σ'=>E=.ret (vi (evT (rho F) M t))∧σ'=stL (rnO cs (planD cs oth fin Z) k c F M n)
 |0,.mk x i ks,hN,_,_,_,_,_=>by simp[flat]at hN
 |N+1,.mk x i ks,hN,hw,hv,P,R,hl=>by
  have hw':(ks.length:Int)=sarityI x.op∧wfL ks:=by simpa only[wfT]using hw
  have IH:∀kt∈ks,∀(P R:List Itm),l=P++(flat kt++R)→_:=fun kt hkt=>JbW cs oth fin Z k c hk hnl F M n hmem hF hM l hll N kt (by have:=J3i (x:=x) (i:=i) hkt;omega) (J6o hw'.2 hkt) (fun y hy=>hv y (J4s hkt hy))
  have htop:x∈flat (.mk x i ks):=by simp[flat]
  obtain⟨⟨hop,hval,hm25⟩,hnm⟩:=hv x htop
  have hfl:(flat (.mk x i ks)).length=(flatL ks).length+1:=by simp only[flat,List.length_append,List.length_singleton]
  obtain⟨e,he⟩:∃e:Nat,e=P.length+(flatL ks).length:=⟨_,rfl⟩
  have hx0:l[e]? = some x:=by
   rw[hl,he]
   simp only[flat,List.append_assoc]
   rw[List.getElem?_append_right (by omega),Nat.add_sub_cancel_left,List.getElem?_append_right (by omega),Nat.sub_self]
   rfl
  have hel:e<l.length:=(List.getElem?_eq_some_iff.1 hx0).1
  have hend:((P.length+(flat (.mk x i ks)).length:Nat):Int)=((e+1:Nat):Int):=by rw[hfl,he];omega
  have hsub:((e+1:Nat):Int)-1=(e:Int):=by omega
  rw[hend,J7Z]
  refine AFun.back rfl ?_
  refine Jw Tryz.func156 rfl (by decide) Tryz.ntmps156 Tryz.results156 (by simp) ?_
  unfold rnO runV
  by_cases k1:x.op=1
  ·have d1:decide (x.op=1)=true:=J0 k1
   repeat' first|refine Z1 ?_|refine Z2 ?_|refine Z5 ?_|refine Yej (e:=eItm) (n:=((e+1:Nat):Int)-1) e hsub hx0 ?_|refine Zg ?_|refine Zo ?_|refine J6 ?_|refine Zp ?_|refine J5 ?_|refine J8 ?_|refine Jb ?_|refine J3 ?_|refine J7 ?_|refine J9 ?_|refine Zt ?_
   refine⟨congrArg (fun z=>AEnd.ret (vi z)) ?_,J24 rfl rfl rfl⟩
   unfold evI;rw[if_pos (.inl k1)]
  have d1:decide (x.op=1)=false:=J1 k1
  by_cases k2:x.op=2
  ·have d2:decide (x.op=2)=true:=J0 k2
   repeat' first|refine Z1 ?_|refine Z2 ?_|refine Z5 ?_|refine Yej (e:=eItm) (n:=((e+1:Nat):Int)-1) e hsub hx0 ?_|refine Zg ?_|refine Zo ?_|refine J6 ?_|refine Jf ?_|refine Zp ?_|refine Zq ?_|refine J5 ?_|refine Jb ?_|refine J7 ?_|refine J9 ?_|refine Zt ?_
   refine⟨congrArg (fun z=>AEnd.ret (vi z)) ?_,J24 rfl rfl rfl⟩
   unfold evI;rw[if_pos (.inr k2)]
  have d2:decide (x.op=2)=false:=J1 k2
  by_cases k3:x.op=3
  ·have d3:decide (x.op=3)=true:=J0 k3
   have hgt:=fun(τ:St) h0 h1=>J6M (oth:=oth) (fin:=fin) (Z:=Z) hk hnl (F:=F) (i:=0) (v:=1) (hv:=2) (s:=3) (hs:=4) (ns:=M.length) (n:=n) (hnm k3) (σ:=τ) h0 h1
   repeat' first|refine Z1 ?_|refine Z2 ?_|refine Z5 ?_|refine Yej (e:=eItm) (n:=((e+1:Nat):Int)-1) e hsub hx0 ?_|refine Ym (hgt _ rfl rfl) ?_|refine Zg ?_|refine Zo ?_|refine J6 ?_|refine Jf ?_|refine Zp ?_|refine Zq ?_|refine J5 ?_|refine Jb ?_|refine J7 ?_|refine J9 ?_|refine Zt ?_
   refine⟨congrArg (fun z=>AEnd.ret (vi z)) ?_,J24 rfl rfl rfl⟩
   unfold evI;rw[if_neg (by omega),if_pos k3]
  have d3:decide (x.op=3)=false:=J1 k3
  by_cases k25:x.op=25
  ·have d25:decide (x.op=25)=true:=J0 k25
   obtain⟨m0,m1⟩:=hm25 k25
   obtain⟨q,hq⟩:∃q:Nat,x.val=(q:Int):=⟨x.val.toNat,by omega⟩
   have hql:q<M.length:=by omega
   have hMq:M[q]? = some M[q]:=List.getElem?_eq_getElem hql
   repeat' first|refine Z1 ?_|refine Z2 ?_|refine Z5 ?_|refine Yej (e:=eItm) (n:=((e+1:Nat):Int)-1) e hsub hx0 ?_|refine Zg ?_|refine Zo ?_|refine J6 ?_|refine Jf ?_|refine Zp ?_|refine Zq ?_|refine J5 ?_
   refine Jv (fun _=>True) [] Jp (by decide +kernel) ?_
   repeat' first|refine Wl (i:=0) rfl trivial ?_|refine Wl (i:=5) rfl trivial ?_|refine Wa ?_|refine Wn ?_
   refine Wq (fun τ h=>Yi1 q ((h 3 trivial).trans rfl) hq hql ⟨rfl,rfl⟩) ?_
   refine Wq (fun τ h=>Ye1 ((h 3 trivial).trans rfl) (J0b hMq) ⟨rfl,rfl⟩) ?_
   repeat' first|refine Wa ?_
   refine Wx ?_
   repeat' first|refine Jb ?_|refine J7 ?_|refine J9 ?_|refine Zt ?_
   refine⟨congrArg (fun z=>AEnd.ret (vi z)) ?_,J24 rfl rfl rfl⟩
   unfold evI;rw[if_neg (by omega),if_neg k3,if_pos k25,hq,Int.toNat_natCast,J8k hMq]
  have d25:decide (x.op=25)=false:=J1 k25
  have h4:4≤x.op∧x.op≤20:=by omega
  have hevi:evI (rho F) M x (ks.map (evT (rho F) M))=apV x.op (ks.map (evT (rho F) M)):=by unfold evI;rw[if_neg (by omega),if_neg k3,if_neg k25]
  have hkl:ks.length≤3:=by have:=J2o x.op;omega
  have hkr:∀v∈ks.map (evT (rho F) M),inR v:=fun v hv2=>by
   obtain⟨kt,hkt,rfl⟩:=List.mem_map.1 hv2
   exact J5F hF hM _ kt (Nat.le_refl _) fun y hy e=>(hv y (J4s hkt hy)).1.2.1 e
  have hap:=J9a (op:=x.op) (L:=ks.map (evT (rho F) M)) h4.1 h4.2 (by rw[List.length_map];exact hw'.1) hkr
  have hsar:=J3t x.op
  rw[←hw'.1]at hsar
  repeat' first|refine Z1 ?_|refine Z2 ?_|refine Z5 ?_|refine Yej (e:=eItm) (n:=((e+1:Nat):Int)-1) e hsub hx0 ?_|refine Yw (sz:=1) (rows:=[]) (n:=6) ?_|refine Zg ?_|refine Zo ?_|refine J6 ?_|refine Jf ?_|refine Zq ?_|refine J5 ?_|refine J8 ?_|refine J3 ?_|refine J4 ?_
  have hs0:((e+1:Nat):Int)-1=((P.length+(flatL (ks.take (ks.length-0))).length:Nat):Int):=by rw[Nat.sub_zero,List.take_length,hsub,he]
  rw[hs0]
  refine JX (ι:=Nat×List Int) (fun x_=>envL [(0,.ref 0 0),(1,.d (.im (l.map eItm))),(7,.ref 5 0),(8,vi ((P.length+(flatL (ks.take (ks.length-x_.1))).length:Nat):Int)),(9,.sl 7 8 0 x_.2.length),(10,vi x_.1)]) (fun x_=>stL [some (runV cs (planD cs oth fin Z) k c 1 2 (nmsC c).length 3 4 M.length n),some (.row 2 3 1 (im2 eNum (vals c F))),none,some (.row 4 3 1 (im2 eNum M)),none,some (.var ((eItm x).map .d)),none,some (.row 8 3 1 (im2 eNum x_.2)),none]) (fun x_=>x_.1≤ks.length∧x_.2=(ks.drop (ks.length-x_.1)).map (evT (rho F) M)) (fun x_=>ks.length-x_.1) (0,[]) (⟨Nat.zero_le _,by simp⟩) Turn.refl (Js [(7,6),(8,6)] rfl rfl rfl ⟨⟨rfl,rfl⟩,⟨rfl,rfl⟩,⟨rfl,rfl⟩,⟨rfl,rfl⟩,⟨rfl,rfl⟩,⟨rfl,rfl⟩,trivial⟩ ⟨⟨rfl,rfl⟩,⟨Jd rfl (by first|exact Jg _ _ _|rfl),Je rfl,Jc _ _ _⟩,⟨Jd rfl (by first|exact Jg _ _ _|rfl),Je rfl,Jc _ _ _⟩,⟨rfl,rfl⟩,⟨Jd rfl (by first|exact Jg _ _ _|rfl),Je rfl,Jc _ _ _⟩,trivial⟩) ?_
  rintro⟨a,L⟩ ⟨a1,a2⟩
  simp only at a1 a2
  show Ok _ _ _ _ (envL [(0,.ref 0 0),(1,.d (.im (l.map eItm))),(7,.ref 5 0),(8,vi ((P.length+(flatL (ks.take (ks.length-a))).length:Nat):Int)),(9,.sl 7 8 0 L.length),(10,vi a)]) (stL [some (runV cs (planD cs oth fin Z) k c 1 2 (nmsC c).length 3 4 M.length n),some (.row 2 3 1 (im2 eNum (vals c F))),none,some (.row 4 3 1 (im2 eNum M)),none,some (.var ((eItm x).map .d)),none,some (.row 8 3 1 (im2 eNum L)),none])
  by_cases ha:a<ks.length
  ·have ea:decide ((a:Int)<(ks.length:Int))=true:=J0 (by omega)
   obtain⟨q,hq⟩:∃q,ks.length-a=q+1:=⟨ks.length-a-1,by omega⟩
   have hq2:ks.length-(a+1)=q:=by omega
   obtain⟨kt,hkt⟩:∃kt,ks[q]? = some kt:=⟨_,List.getElem?_eq_getElem (by omega)⟩
   have hmem:=List.mem_of_getElem? hkt
   have hsp:=J4z ks q kt hkt
   have hft:flatL (ks.take (q+1))=flatL (ks.take q)++flat kt:=by rw[JT hkt,J1D];simp[flatL]
   have hfl2:flatL ks=flatL (ks.take q)++(flat kt++flatL (ks.drop (q+1))):=by
    conv=>lhs;rw[hsp]
    rw[J1D];rfl
   have hl':l=(P++flatL (ks.take q))++(flat kt++(flatL (ks.drop (q+1))++([x]++R))):=by
    rw[hl];simp only[flat,hfl2,List.append_assoc]
   have ih:=IH kt hmem _ _ hl'
   have hbg:=JbU l hll kt (J6o hw'.2 hmem) _ _ hl'
   have hlen:(P++flatL (ks.take q)).length+(flat kt).length=P.length+(flatL (ks.take (ks.length-a))).length:=by rw[hq,hft];simp only[List.length_append];omega
   have hlen2:(P++flatL (ks.take q)).length=P.length+(flatL (ks.take (ks.length-(a+1)))).length:=by rw[hq2,List.length_append]
   rw[hlen]at ih hbg
   rw[hlen2]at hbg
   have ihl:∀τ:St,5≤τ.next→(∀j o,(stL (rnO cs (planD cs oth fin Z) k c F M n)).obj j=some o→τ.obj j=some o)→AFun X 156 [.ref 0 0,.d (.im (l.map eItm)),vi ((P.length+(flatL (ks.take (ks.length-a))).length:Nat):Int)] τ fun E σ'=>E=.ret (vi (evT (rho F) M kt))∧σ'=τ:=fun τ h5 hob=>
    AFun.roL (ih.mono fun E σ' ⟨h1,h2⟩=>⟨h1,fun j _=>by rw[h2]⟩) (fun j o ho=>(J4Z ho).2) rfl rfl h5 hob
   have hLl:L.length≤3:=by rw[a2,List.length_map,List.length_drop];omega
   have hi2:(im2 eNum L).length=L.length:=JK _ _
   have hr1:∀r∈im2 eNum L,r.length=1:=fun r hr=>by
    simp only[im2,List.map_map,List.mem_map]at hr
    obtain⟨y,_,rfl⟩:=hr
    rfl
   repeat' first|refine Z1 ?_|refine Z2 ?_|refine Z3 ?_|refine Z5 ?_|refine Zc (hsar) ?_|refine Ym (ihl _ (Nat.le_of_ble_eq_true rfl) (J24 rfl rfl rfl)) ?_|refine Zc (hbg) ?_|refine Yw (sz:=1) (rows:=[[vi (evT (rho F) M kt)]]) (n:=9) ?_|refine Ut (i:=9) (v:=9) (hi:=1) (k:=7) (w:=8) (m:=L.length) (z:=(evT (rho F) M kt::L).length) rfl rfl (Nat.le_refl 1) hi2.symm hr1 (by omega) (by rw[hi2,List.length_cons];omega) ?_|refine Zf ?_|refine Zo ?_|refine J6 ?_|refine Jf ?_|refine Zp ?_|refine J5 ?_|refine J8 ?_|refine J3 ?_|refine J4 ?_
   rw[show List.take 1 [[vi (evT (rho F) M kt)]]++im2 eNum L=im2 eNum (evT (rho F) M kt::L)from rfl]
   have hdrop:evT (rho F) M kt::L=(ks.drop (ks.length-(a+1))).map (evT (rho F) M):=by rw[a2,hq2,hq,(Ji hkt).1];rfl
   exact⟨(a+1,evT (rho F) M kt::L),⟨ha,hdrop⟩,by(try simp only);omega,Js [(7,9),(8,10)] rfl rfl rfl ⟨⟨rfl,rfl⟩,⟨rfl,rfl⟩,⟨rfl,rfl⟩,⟨rfl,rfl⟩,⟨rfl,rfl⟩,⟨rfl,rfl⟩,trivial⟩ ⟨⟨rfl,rfl⟩,⟨Jd rfl (by first|exact Jg _ _ _|rfl),Je rfl,Jc _ _ _⟩,⟨Jd rfl (by first|exact Jg _ _ _|rfl),Je rfl,Jc _ _ _⟩,⟨rfl,rfl⟩,⟨Jd rfl (by first|exact Jg _ _ _|rfl),Je rfl,Jc _ _ _⟩,trivial⟩⟩
  have ea:decide ((a:Int)<(ks.length:Int))=false:=J1 (by omega)
  have hL:L=ks.map (evT (rho F) M):=by rw[a2,show ks.length-a=0 by omega];rfl
  subst hL
  have hapl:=fun(τ:St) (h6:τ.obj 7=some (.row 8 3 1 (im2 eNum (ks.map (evT (rho F) M)))))=>PFun.lendL (args:=[vi x.op,.sl 7 8 0 (ks.map (evT (rho F) M)).length]) hap (σ:=τ) ⟨J69 _,.data (J0j h6 rfl),trivial⟩
  repeat' first|refine Z1 ?_|refine Z2 ?_|refine Z5 ?_|refine Zc (hsar) ?_|refine Ym (hapl _ rfl) ?_|refine Zo ?_|refine J6 ?_|refine Zq ?_|refine Jh ?_|refine Jb ?_|refine J3 ?_|refine Ja ?_|refine Zv ?_|refine Zt ?_
  exact⟨congrArg (fun z=>AEnd.ret (vi z)) hevi.symm,J24 rfl rfl rfl⟩
end Go.Pm
/- Part of the proof: Sg2. -/
namespace Go.Pm
attribute [local irreducible] AR Ok inBlock andThen endQ aoper
set_option maxHeartbeats 8000000
open Go.Proofs
theorem J2Q {cs:List Cls} {Z Bd:List Int} {roots:List (List D)} {c:Cls} {fr P Q:List Int} {m:Nat} {σ:MS} {j:Nat} {o:AO} (h:((doO cs Z Bd roots c fr P Q m σ)[j]?).join=some o):o.low 12:=by
 unfold doO engV at h
 match j,h with
 |0,h=>cases h;rfl
 |1,h=>cases h;rfl
 |2,h=>cases h;rfl
 |3,h=>cases h;rfl
 |4,h=>cases h;rfl
 |5,h=>cases h;rfl
 |6,h=>cases h;rfl
 |7,h=>cases h;exact Jk (fun _=>rfl) _
 |8,h=>cases h;exact⟨by decide,Jc _ _ _⟩
 |9,h=>cases h
 |10,h=>cases h;exact⟨by decide,Jc _ _ _⟩
 |11,h=>cases h
 |j+12,h=>simp at h
theorem J0a {c:Cls} {m:Nat} {σ:MS} {l:List Itm} (hg:GoodM c l) (hσ:okMS m σ):inR (codeV σ l):=
 J5F hσ.2.1 hσ.2.2.1 _ (tmI l) (Nat.le_refl _) fun x hx e=>(hg.2.2.2.2.2 x (by rw[←hg.2.2.2.2.1];exact hx)).1.2.1 e
theorem J0x:∀{xs:List ByteArray} {vs:List Int} {F:List (ByteArray×Int)},(∀s,inR (rho F s))→(∀v∈vs,inR v)→∀s,inR (rho (putAll F xs vs) s)
 |x::xs,v::vs,F,hF,hv=>by simp only[putAll];exact J0x (J4d hF (hv v (by simp))) fun u hu=>hv u (by simp[hu])
 |[],_,F,hF,_=>by simp only[putAll];exact hF
 |_::_,[],F,hF,_=>by simp only[putAll];exact hF
theorem J1A {l:List Int} {i:Nat} {v:Int} (h:l[i]? = some v):nth l i=v:=by unfold nth;rw[List.getD_eq_getElem?_getD,h];rfl
theorem J1E {cs:List Cls} {Z:List Int} {c:Cls} {call:CallF} {s:Sm} {σ:MS} {p g z:Nat} (hp:s.pos=(p:Int)) (hg:c.insts[p]? = some (g:Int)) (hz:Z[g]? = some (z:Int)):
  exCall call Z c s σ=⟨putAll σ.F s.outs (call g ((σ.M.drop (fromZ Z c p)).take z) (s.args.map (codeV σ))).2.1,σ.M.take (fromZ Z c p)++((call g ((σ.M.drop (fromZ Z c p)).take z) (s.args.map (codeV σ))).1++σ.M.drop (fromZ Z c p+z)),σ.n+(call g ((σ.M.drop (fromZ Z c p)).take z) (s.args.map (codeV σ))).2.2⟩:=by
 have e1:s.pos.toNat=p:=by omega
 have e2:(nth c.insts p).toNat=g:=by rw[J1A hg];omega
 have e3:(nth Z g).toNat=z:=by rw[J1A hz];omega
 unfold exCall
 simp only[e1,e2,e3,Nat.add_sub_cancel_left]
theorem J6G {cs:List Cls} {Z:List Int} {m:Nat} {c:Cls} {call:CallF} (hcall:∀g S I,0≤(call g S I).2.2) (hc:CallOK cs Z call) {s:Sm} {σ:MS} (h:okCall cs Z m c s) (hσ:okMS m σ):okMS m (exCall call Z c s σ):=by
 obtain⟨h1,_,_,p,g,z,d,h4,h5,h6,h7,h8,h9,h10⟩:=h
 rw[J1E (cs:=cs) h4 h5 h7]
 obtain⟨s1,s2,s3,s4⟩:=hσ
 have hS:((σ.M.drop (fromZ Z c p)).take z).length=z:=by rw[List.length_take,List.length_drop];omega
 obtain⟨a1,a2,a3,a4⟩:=hc g d z _ (s.args.map (codeV σ)) h6 h7 hS (by rw[List.length_map];exact h9) (fun v hv=>s3 v (List.mem_of_mem_drop (List.mem_of_mem_take hv))) (fun v hv=>by
  obtain⟨a,ha,rfl⟩:=List.mem_map.1 hv
  exact J0a (h1 a ha) ⟨s1,s2,s3,s4⟩)
 refine⟨?_,J0x s2 a4,fun v hv=>?_,by have:=hcall g ((σ.M.drop (fromZ Z c p)).take z) (s.args.map (codeV σ));show 0≤σ.n+_;omega⟩
 ·simp only[List.length_append,List.length_take,List.length_drop,a1];omega
 ·rcases List.mem_append.1 hv with h|h
  ·exact s3 v (List.mem_of_mem_take h)
  ·rcases List.mem_append.1 h with h|h
   ·exact a3 v h
   ·exact s3 v (List.mem_of_mem_drop h)
mutual
theorem Jcb {cs:List Cls} {call:CallF} {Z:List Int} {c:Cls} {m:Nat} (hcall:∀g S I,0≤(call g S I).2.2) (hp:CallOK cs Z call):∀(b:Br) (σ:MS),okB cs Z m c b→okMS m σ→okMS m (exB call Z c b σ)
 |.nd s y w,σ,hb,hσ=>by
  simp only[okB]at hb
  obtain⟨h0,h4,h5⟩:=hb
  have hσ1:okMS m {σ with n:=σ.n+1}:=⟨hσ.1,hσ.2.1,hσ.2.2.1,by show 0≤σ.n+1;have:=hσ.2.2.2;omega⟩
  simp only[exB]
  split
  ·split
   ·exact J1L hcall hp y _ h4 hσ1
   ·exact J1L hcall hp w _ h5 hσ1
  ·unfold exS
   split
   ·rename_i k1
    exact⟨hσ1.1,J4d hσ1.2.1 (J0a (h0.1 k1) hσ1),hσ1.2.2.1,hσ1.2.2.2⟩
   split
   ·rename_i k2
    refine⟨by rw[List.length_set];exact hσ1.1,hσ1.2.1,fun v hv=>?_,hσ1.2.2.2⟩
    rcases List.mem_or_eq_of_mem_set hv with h|h
    ·exact hσ1.2.2.1 v h
    ·rw[h];exact J0a (h0.2.1 k2).1 hσ1
   split
   ·rename_i k3;exact J6G hcall hp (h0.2.2 k3) hσ1
   ·exact hσ1
theorem J1L {cs:List Cls} {call:CallF} {Z:List Int} {c:Cls} {m:Nat} (hcall:∀g S I,0≤(call g S I).2.2) (hp:CallOK cs Z call):∀(l:List Br) (σ:MS),okL cs Z m c l→okMS m σ→okMS m (exL call Z c l σ)
 |[],σ,_,hσ=>hσ
 |b::l,σ,hl,hσ=>by
  simp only[okL]at hl
  simp only[exL]
  exact J1L hcall hp l _ hl.2 (Jcb hcall hp b σ hl.1 hσ)
end
def StepC (cs ds:List Cls) (Z Bd:List Int) (roots:List (List D)) (call:CallF):Prop:=∀(g:Nat) (d:Cls) (z:Nat) (P S Q I:List Int) (n:Int),ds[g]? = some d→Z[g]? = some (z:Int)→S.length=z→I.length=d.ins.length→(∀v∈P,inR v)→(∀v∈S,inR v)→(∀v∈Q,inR v)→(∀v∈I,inR v)→
 0≤n→n+(call g S I).2.2≤1099511627776→P.length+z≤1099511627776→
 AFun X 33 [.ref 0 0,vi (g:Int),.sl 1 2 P.length (P.length+z),.sl 3 4 0 I.length] (stL [some (engV cs Z Bd roots n),some (.row 2 2 1 (im2 eNum (P++(S++Q)))),none,some (.row 4 2 1 (im2 eNum I)),none]) fun E σ'=>
  E=.ret (.sl 5 6 0 (call g S I).2.1.length)∧σ'=stL [some (engV cs Z Bd roots (n+(call g S I).2.2)),some (.row 2 2 1 (im2 eNum (P++((call g S I).1++Q)))),none,some (.row 4 2 1 (im2 eNum I)),none,some (.row 6 2 1 (im2 eNum (call g S I).2.1)),none]
theorem J4N {c:Cls} {m:Nat} {σ:MS} {P Q:List Int} {l:List Itm} (hg:GoodM c l) (hm:c.mems.length≤m) (hσ:okMS m σ) (hPQ:(∀v∈P,inR v)∧∀v∈Q,inR v) {τ:St} (h7:τ.obj 7=some (.map .string (smap vi σ.F))) (h8:τ.obj 8=some (.row 9 2 1 (im2 eNum (P++(σ.M++Q))))):
  AFun X 72 [.d (.im (l.map eItm)),.mp 7,.sl 8 9 P.length (P.length+m)] τ fun E σ'=>E=.ret (vi (codeV σ l))∧σ'=τ:=by
 obtain⟨g1,g2,g3,g4,g5,g6⟩:=hg
 obtain⟨s1,s2,s3,s4⟩:=hσ
 have:=Jad (F:=σ.F) (R:=P++(σ.M++Q)) (lo:=P.length) (hi:=P.length+m) (by omega) (by simp only[List.length_append];omega) (l:=l) (t:=tmI l) (by omega) g2 g3 (fun x hx=>by
  obtain⟨a,b,d⟩:=(g6 x hx).1
  exact⟨a,b,fun e=>by have:=d e;omega⟩) s2 (fun v hv=>by
  rcases List.mem_append.1 hv with h|h
  ·exact hPQ.1 v h
  ·rcases List.mem_append.1 h with h|h
   ·exact s3 v h
   ·exact hPQ.2 v h) h7 h8
 have e:((P++(σ.M++Q)).drop P.length).take (P.length+m-P.length)=σ.M:=by rw[←s1];exact Jbv P σ.M Q
 rw[e]at this
 exact this
theorem J0u {L:List Nat} {a d:Nat} (h:L[d]? = some a) (hn:L.contains a=false):False:=by
 have h2:=List.mem_of_getElem? h
 rw[List.contains_iff_mem.2 h2]at hn
 cases hn
theorem JbA {cs ds:List Cls} {Z Bd:List Int} {roots:List (List D)} {c:Cls} {fr P Q:List Int} {m:Nat} {call:CallF} (hstep:StepC cs ds Z Bd roots call) {g:Nat} {d:Cls} {z:Nat} (hg:ds[g]? = some d) (hz:Z[g]? = some (z:Int)) {M1 S M2 I:List Int} (hS:S.length=z) (hI:I.length=d.ins.length)
  (hP:∀v∈P,inR v) (hM:∀v∈M1++(S++M2),inR v) (hQ:∀v∈Q,inR v) (hIr:∀v∈I,inR v) {n:Int} (hn:0≤n) (hn2:n+(call g S I).2.2≤1099511627776) (hb:P.length+M1.length+z≤1099511627776) {F:List (ByteArray×Int)}:
  AFun X 33 [.ref 6 0,vi (g:Int),.sl 8 9 (P.length+M1.length) (P.length+(M1.length+z)),.sl 12 13 0 I.length] (stL [some (.var [.ref 6 0]),some (.var [.mp 7]),some (.var [.sl 8 9 P.length (P.length+m)]),some (.var [.fn 71 [.ref 0 0,.ref 1 0,.ref 2 0,.ref 3 0,.ref 4 0,.ref 5 0]]),some (.var ((eCls c).map .d)),some (.var [.sl 10 11 0 fr.length]),some (.var [.d (.im (cs.map eCls)),.d (.ip [.im (Z.map eNum),.im (Bd.map eNum)] 0),.d (.im roots),vi n]),some (.map .string (smap vi F)),some (.row 9 2 1 (im2 eNum (P++((M1++(S++M2))++Q)))),none,some (.row 11 3 1 (im2 eNum fr)),none,some (.row 13 2 1 (im2 eNum I)),none]) fun E σ'=>
   E=.ret (.sl 14 15 0 (call g S I).2.1.length)∧σ'=stL [some (.var [.ref 6 0]),some (.var [.mp 7]),some (.var [.sl 8 9 P.length (P.length+m)]),some (.var [.fn 71 [.ref 0 0,.ref 1 0,.ref 2 0,.ref 3 0,.ref 4 0,.ref 5 0]]),some (.var ((eCls c).map .d)),some (.var [.sl 10 11 0 fr.length]),some (.var [.d (.im (cs.map eCls)),.d (.ip [.im (Z.map eNum),.im (Bd.map eNum)] 0),.d (.im roots),vi (n+(call g S I).2.2)]),some (.map .string (smap vi F)),some (.row 9 2 1 (im2 eNum (P++((M1++((call g S I).1++M2))++Q)))),none,some (.row 11 3 1 (im2 eNum fr)),none,some (.row 13 2 1 (im2 eNum I)),none,some (.row 15 2 1 (im2 eNum (call g S I).2.1)),none]:=by
 have h:=hstep g d z (P++M1) S (M2++Q) I n hg hz hS hI (fun v hv=>by
  rcases List.mem_append.1 hv with h|h
  ·exact hP v h
  ·exact hM v (List.mem_append_left _ h)) (fun v hv=>hM v (List.mem_append_right _ (List.mem_append_left _ hv))) (fun v hv=>by
  rcases List.mem_append.1 hv with h|h
  ·exact hM v (List.mem_append_right _ (List.mem_append_right _ h))
  ·exact hQ v h) hIr hn hn2 (by rw[List.length_append];omega)
 have e1:P++M1++(S++(M2++Q))=P++(M1++(S++M2)++Q):=by simp only[List.append_assoc]
 have e2:P++M1++((call g S I).1++(M2++Q))=P++(M1++((call g S I).1++M2)++Q):=by simp only[List.append_assoc]
 have e3:(P++M1).length=P.length+M1.length:=List.length_append
 rw[e1,e2,e3,Nat.add_assoc]at h
 have h2:=AFun.emb h [6,8,9,12,13] rfl ⟨fun e o h1 _=>J0u h1 rfl,⟨fun e o h1 _=>J0u h1 rfl,⟨fun e o h1 _=>J0u h1 rfl,trivial⟩⟩⟩ (σ:=stL [some (.var [.ref 6 0]),some (.var [.mp 7]),some (.var [.sl 8 9 P.length (P.length+m)]),some (.var [.fn 71 [.ref 0 0,.ref 1 0,.ref 2 0,.ref 3 0,.ref 4 0,.ref 5 0]]),some (.var ((eCls c).map .d)),some (.var [.sl 10 11 0 fr.length]),some (.var [.d (.im (cs.map eCls)),.d (.ip [.im (Z.map eNum),.im (Bd.map eNum)] 0),.d (.im roots),vi n]),some (.map .string (smap vi F)),some (.row 9 2 1 (im2 eNum (P++((M1++(S++M2))++Q)))),none,some (.row 11 3 1 (im2 eNum fr)),none,some (.row 13 2 1 (im2 eNum I)),none]) (fun j hj=>by
   match j,hj with
   |0,_=>exact(by decide:6<14)
   |1,_=>exact(by decide:8<14)
   |2,_=>exact(by decide:9<14)
   |3,_=>exact(by decide:12<14)
   |4,_=>exact(by decide:13<14)
   |j+5,hj=>exact absurd hj (by show ¬j+5<5;omega)) (fun j o hj=>by
   match j,hj with
   |0,hj=>cases hj;exact⟨rfl,rfl⟩
   |1,hj=>cases hj;exact⟨by show _=some (renO _ (.row 2 _ 1 (im2 eNum _)));simp only[renO];rw[Jg];rfl,by show 2<5;decide,Jc _ _ _⟩
   |2,hj=>cases hj
   |3,hj=>cases hj;exact⟨by show _=some (renO _ (.row 4 _ 1 (im2 eNum _)));simp only[renO];rw[Jg];rfl,by show 4<5;decide,Jc _ _ _⟩
   |4,hj=>cases hj
   |j+5,hj=>simp at hj) rfl
 refine h2.mono ?_
 rintro E σ' ⟨rfl,rfl⟩
 refine⟨rfl,St.ext' (funext fun j=>?_) rfl⟩
 match j with
 |0=>rfl
 |1=>rfl
 |2=>rfl
 |3=>rfl
 |4=>rfl
 |5=>rfl
 |6=>rfl
 |7=>rfl
 |8=>show some (renO _ (.row 2 _ 1 (im2 eNum _)))=_;simp only[renO];rw[Jg];rfl
 |9=>rfl
 |10=>rfl
 |11=>rfl
 |12=>show some (renO _ (.row 4 _ 1 (im2 eNum _)))=_;simp only[renO];rw[Jg];rfl
 |13=>rfl
 |14=>show some (renO _ (.row 6 _ 1 (im2 eNum _)))=_;simp only[renO];rw[Jg];rfl
 |15=>rfl
 |j+16=>
  refine(J22 (by show 5≤7;omega) (by show 14+(7-5)≤j+16;omega)).trans ?_
  rfl
theorem JcF (cs ds:List Cls) (Z Bd:List Int) (roots:List (List D)) (c:Cls) (fr P Q:List Int) (m:Nat) (hPQ:(∀v∈P,inR v)∧∀v∈Q,inR v) (hm:c.mems.length≤m) (hPl:P.length+m≤1099511627776) (hfr:fr=(List.range c.insts.length).map fun i=>(fromZ Z c i:Int)) (call:CallF) (hcall:∀g S I,0≤(call g S I).2.2) (hpres:CallOK ds Z call) (hstep:StepC cs ds Z Bd roots call):∀(N:Nat) (l:List Br),brsN l=N→brsN l≤1048576→okL ds Z m c l→
  ∀σ0:MS,okMS m σ0→(exL call Z c l σ0).n≤1099511627776→
  AFun X 71 [.d (.im (l.map eBrP)),.ref 0 0,.ref 1 0,.ref 2 0,.ref 3 0,.ref 4 0,.ref 5 0] (stL (doO cs Z Bd roots c fr P Q m σ0)) fun E σ'=>E=.ret (.tup [])∧∀j,j<12→σ'.obj j=((doO cs Z Bd roots c fr P Q m (exL call Z c l σ0))[j]?).join:=by
 intro N
 induction N using Nat.strongRecOn with
 |_ N ih=>
  intro l hN hle hok σ0 hσ0 hb
  refine Jw Tryz.func71 rfl (by decide) Tryz.ntmps71 Tryz.results71 (by simp) ?_
  have hll:=J4x l
  unfold doO engV
  repeat' first|refine Z1 ?_|refine Z2 ?_|refine Z5 ?_|refine Zd ?_|refine Zo ?_|refine J5 ?_
  refine Jq (ι:=Nat×MS) (fun x_=>envL [(1,.ref 0 0),(2,.ref 1 0),(3,.ref 2 0),(4,.ref 3 0),(5,.ref 4 0),(6,.ref 5 0),(17,.d (.im (l.map eBrP))),(18,vi l.length),(19,vi x_.1)]) (fun x_=>stL [some (.var [.ref 6 0]),some (.var [.mp 7]),some (.var [.sl 8 9 P.length (P.length+m)]),some (.var [.fn 71 [.ref 0 0,.ref 1 0,.ref 2 0,.ref 3 0,.ref 4 0,.ref 5 0]]),some (.var ((eCls c).map .d)),some (.var [.sl 10 11 0 fr.length]),some (.var [.d (.im (cs.map eCls)),.d (.ip [.im (Z.map eNum),.im (Bd.map eNum)] 0),.d (.im roots),vi x_.2.n]),some (.map .string (smap vi x_.2.F)),some (.row 9 2 1 (im2 eNum (P++(x_.2.M++Q)))),none,some (.row 11 3 1 (im2 eNum fr)),none]) (fun x_=>x_.1≤l.length∧exL call Z c (l.drop x_.1) x_.2=exL call Z c l σ0∧okMS m x_.2) (fun x_=>l.length-x_.1) (0,σ0) (⟨Nat.zero_le _,rfl,hσ0⟩) (Jj rfl ⟨.refl _,.refl _,.refl _,.refl _,.refl _,.refl _,.refl _,.refl _,.refl _,trivial⟩ ⟨⟨rfl,_,rfl,rfl,fun _ _ _=>.refl _⟩,⟨rfl,_,rfl,rfl,fun _ _ _=>.refl _⟩,⟨rfl,_,rfl,rfl,fun _ _ _=>.refl _⟩,⟨rfl,_,rfl,rfl,fun _ _ _=>.refl _⟩,⟨rfl,_,rfl,rfl,fun _ _ _=>.refl _⟩,⟨rfl,_,rfl,rfl,fun _ _ _=>.refl _⟩,⟨rfl,_,rfl,rfl,fun _ _ _=>.refl _⟩,⟨rfl,_,rfl,rfl,rfl⟩,⟨rfl,_,rfl,rfl,rfl,rfl,rfl⟩,⟨rfl,_,rfl,rfl,rfl,rfl,rfl⟩,trivial⟩) (fun _=>Nat.le_refl 12) ?_
  rintro⟨k,σ⟩ ⟨i1,i2,i3⟩
  simp only at i1 i2 i3
  show Ok _ _ _ _ (envL [(1,.ref 0 0),(2,.ref 1 0),(3,.ref 2 0),(4,.ref 3 0),(5,.ref 4 0),(6,.ref 5 0),(17,.d (.im (l.map eBrP))),(18,vi l.length),(19,vi k)]) (stL [some (.var [.ref 6 0]),some (.var [.mp 7]),some (.var [.sl 8 9 P.length (P.length+m)]),some (.var [.fn 71 [.ref 0 0,.ref 1 0,.ref 2 0,.ref 3 0,.ref 4 0,.ref 5 0]]),some (.var ((eCls c).map .d)),some (.var [.sl 10 11 0 fr.length]),some (.var [.d (.im (cs.map eCls)),.d (.ip [.im (Z.map eNum),.im (Bd.map eNum)] 0),.d (.im roots),vi σ.n]),some (.map .string (smap vi σ.F)),some (.row 9 2 1 (im2 eNum (P++(σ.M++Q)))),none,some (.row 11 3 1 (im2 eNum fr)),none])
  rcases hx:l[k]? with _|b
  ·have hle:=Jo hx
   have ek:decide ((k:Int)<(l.length:Int))=false:=J1 (by omega)
   rw[Jr hx]at i2
   simp only[exL]at i2
   subst i2
   repeat' first|refine Z1 ?_|refine Z2 ?_|refine Zo ?_|refine J6 ?_|refine Zq ?_|refine Jh ?_|refine Ja ?_|refine Zv ?_
   refine nrm0 ⟨rfl,fun j hj=>rfl⟩
  obtain⟨hd,hlt⟩:=Ji hx
  have ek:decide ((k:Int)<(l.length:Int))=true:=J0 (by omega)
  rw[hd]at i2
  simp only[exL]at i2
  have hmem:=List.mem_of_getElem? hx
  have hbn:=J4q hmem
  have hob:=J8y hmem hok
  have hn1:=JbZ hcall Z c b σ
  have hn2:=J20 hcall Z c (l.drop (k+1)) (exB call Z c b σ)
  rw[i2]at hn2
  obtain⟨s1,s2,s3,s4⟩:=i3
  have hnb:σ.n+1≤1099511627776:=by omega
  obtain⟨s,y,w⟩:=b
  simp only[brN]at hbn
  simp only[okB]at hob
  obtain⟨⟨g1,g2,g3⟩,g4,g5⟩:=hob
  simp only[exB]at i2 hn2
  have hσ1:okMS m {σ with n:=σ.n+1}:=⟨s1,s2,s3,by show 0≤σ.n+1;omega⟩
  by_cases k1:s.kind=1
  ·have d1:decide (s.kind=1)=true:=J0 k1
   rw[if_neg (by omega)]at i2
   unfold exS at i2
   rw[if_pos k1]at i2
   have hg:=g1 k1
   have hr:=J0a hg hσ1
   repeat' first|refine Z1 ?_|refine Z2 ?_|refine Z5 ?_|refine Ju ?_|refine Ze ?_|refine Zf ?_|refine Zo ?_|refine J6 ?_|refine Zp ?_|refine J5 ?_|refine J8 ?_|refine J3 ?_
   refine Jv doT [14] Jp (by decide +kernel) ?_
   repeat' first|refine Wl (i:=1) rfl (.inr (.inl rfl)) ?_|refine Wl (i:=2) rfl (.inr (.inr (.inl rfl))) ?_|refine Wa ?_|refine Wn ?_
   refine Wq (fun τ h=>Ym (J4N hg hm hσ1 hPQ ((h 7 (.inr (.inr (.inr (.inr (.inl rfl)))))).trans rfl) ((h 8 (.inr (.inr (.inr (.inr (.inr rfl)))))).trans rfl)) ⟨rfl,rfl⟩) ?_
   refine We (Yc (F:=σ.F) (e:=vi) (b:=codeV {σ with n:=σ.n+1} s.code) (i:=7) ⟨rfl,rfl⟩) (.inl rfl) ?_
   refine Wy ?_
   repeat' first|refine Z1 ?_|refine Z2 ?_|refine Z5 ?_|refine Zf ?_|refine Jf ?_|refine J3 ?_|refine J4 ?_
   exact⟨(k+1,{σ with n:=σ.n+1,F:=sput σ.F s.name (codeV {σ with n:=σ.n+1} s.code)}),⟨hlt,i2,s1,J4d s2 hr,s3,by show 0≤σ.n+1;omega⟩,by(try simp only);omega,Jl (Nat.le_of_ble_eq_true rfl) ⟨⟨rfl,rfl⟩,⟨rfl,rfl⟩,⟨rfl,rfl⟩,⟨rfl,rfl⟩,⟨rfl,rfl⟩,⟨rfl,rfl⟩,⟨rfl,rfl⟩,⟨rfl,rfl⟩,⟨rfl,rfl⟩,trivial⟩ ⟨⟨rfl,rfl⟩,⟨rfl,rfl⟩,⟨rfl,rfl⟩,⟨rfl,rfl⟩,⟨rfl,rfl⟩,⟨rfl,rfl⟩,⟨rfl,rfl⟩,⟨rfl,Jk (fun _=>rfl) _⟩,⟨rfl,Je rfl,Jc _ _ _⟩,⟨rfl,Je rfl,Jc _ _ _⟩,trivial⟩⟩
  have d1:decide (s.kind=1)=false:=J1 k1
  by_cases k2:s.kind=2
  ·have d2:decide (s.kind=2)=true:=J0 k2
   rw[if_neg (by omega)]at i2
   unfold exS at i2
   rw[if_neg k1,if_pos k2]at i2
   obtain⟨hg,p0,p1⟩:=g2 k2
   have hr:=J0a hg hσ1
   obtain⟨p,hp⟩:∃p:Nat,s.pos=(p:Int):=⟨s.pos.toNat,by omega⟩
   rw[hp,Int.toNat_natCast]at i2
   have hpm:p<σ.M.length:=by omega
   have hMs:∀v∈σ.M.set p (codeV {σ with n:=σ.n+1} s.code),inR v:=fun v hv=>by
    rcases List.mem_or_eq_of_mem_set hv with h|h
    ·exact s3 v h
    ·rw[h];exact hr
   repeat' first|refine Z1 ?_|refine Z2 ?_|refine Z5 ?_|refine Ju ?_|refine Ze ?_|refine Zf ?_|refine Zo ?_|refine J6 ?_|refine Zp ?_|refine Zq ?_|refine J5 ?_|refine J8 ?_|refine J3 ?_
   refine Jv doT [15] Jp (by decide +kernel) ?_
   repeat' first|refine Wl (i:=1) rfl (.inr (.inl rfl)) ?_|refine Wl (i:=2) rfl (.inr (.inr (.inl rfl))) ?_|refine Wa ?_|refine Wn ?_
   refine Wq (fun τ h=>Ym (J4N hg hm hσ1 hPQ ((h 7 (.inr (.inr (.inr (.inr (.inl rfl)))))).trans rfl) ((h 8 (.inr (.inr (.inr (.inr (.inr rfl)))))).trans rfl)) ⟨rfl,rfl⟩) ?_
   refine Wq (fun τ h=>J08 (k:=p) (p:=P.length+p) (lo:=P.length) (hi:=P.length+m) (i:=8) hp rfl (by omega) rfl rfl rfl rfl rfl ((h 8 (.inr (.inr (.inr (.inr (.inr rfl)))))).trans rfl) ⟨rfl,rfl⟩) ?_
   refine We (J4t (e:=eNum) (l:=P++(σ.M++Q)) (y:=codeV {σ with n:=σ.n+1} s.code) (by simp only[List.length_append];omega) (fun _=>rfl) rfl rfl rfl rfl rfl ⟨rfl,rfl⟩) (.inl rfl) ?_
   refine Wy ?_
   rw[JbN hpm]
   repeat' first|refine Z1 ?_|refine Z2 ?_|refine Z5 ?_|refine Zf ?_|refine Jf ?_|refine J3 ?_|refine J4 ?_
   exact⟨(k+1,{σ with n:=σ.n+1,M:=σ.M.set p (codeV {σ with n:=σ.n+1} s.code)}),⟨hlt,i2,by rw[List.length_set];exact s1,s2,hMs,by show 0≤σ.n+1;omega⟩,by(try simp only);omega,Jl (Nat.le_of_ble_eq_true rfl) ⟨⟨rfl,rfl⟩,⟨rfl,rfl⟩,⟨rfl,rfl⟩,⟨rfl,rfl⟩,⟨rfl,rfl⟩,⟨rfl,rfl⟩,⟨rfl,rfl⟩,⟨rfl,rfl⟩,⟨rfl,rfl⟩,trivial⟩ ⟨⟨rfl,rfl⟩,⟨rfl,rfl⟩,⟨rfl,rfl⟩,⟨rfl,rfl⟩,⟨rfl,rfl⟩,⟨rfl,rfl⟩,⟨rfl,rfl⟩,⟨rfl,Jk (fun _=>rfl) _⟩,⟨rfl,Je rfl,Jc _ _ _⟩,⟨rfl,Je rfl,Jc _ _ _⟩,trivial⟩⟩
  have d2:decide (s.kind=2)=false:=J1 k2
  by_cases k4:s.kind=4
  ·have d4:decide (s.kind=4)=true:=J0 k4
   rw[if_pos k4]at i2 hn2
   repeat' first|refine Z1 ?_|refine Z2 ?_|refine Z5 ?_|refine Ju ?_|refine Ze ?_|refine Zf ?_|refine Zo ?_|refine J6 ?_|refine Zp ?_|refine Zq ?_|refine J5 ?_|refine J8 ?_|refine J3 ?_
   refine Jv doT [] Jp (by decide +kernel) ?_
   repeat' first|refine Wl (i:=1) rfl (.inr (.inl rfl)) ?_|refine Wa ?_|refine Wn ?_
   refine Wq (fun τ h=>Yb (F:=σ.F) (e:=vi) (d0:=0) (i:=7) (ho:=(h 7 (.inr (.inr (.inr (.inr (.inl rfl)))))).trans rfl) ⟨rfl,rfl⟩) ?_
   repeat' first|refine Wa ?_
   refine Wy ?_
   by_cases hz:rho σ.F s.name≠0
   ·have dz:decide ((sfind σ.F s.name).getD 0≠0)=true:=J0 hz
    rw[if_pos hz]at i2 hn2
    have hres:=J1L (cs:=ds) (call:=call) (Z:=Z) (c:=c) (m:=m) hcall hpres y {σ with n:=σ.n+1} g4 hσ1
    have hrec:=(ih (brsN y) (by omega) y rfl (by omega) g4 {σ with n:=σ.n+1} hσ1 (by omega))
    rw[←J1S]at hrec
    repeat' first|refine Zp ?_|refine J3 ?_
    refine Jv doT [5] Jp (by decide +kernel) ?_
    repeat' first|refine Wl (i:=3) rfl (.inr (.inr (.inr (.inl rfl)))) ?_|refine Wa ?_|refine Wn ?_
    refine We (Yp (hrec.up rfl (fun j o h=>J2Q h) (fun j o h=>J2Q h) rfl rfl (by show 12≤12;omega) (fun j hj=>by
     match j,hj with
     |0,_=>rfl|1,_=>rfl|2,_=>rfl|3,_=>rfl|4,_=>rfl|5,_=>rfl|6,_=>rfl|7,_=>rfl|8,_=>rfl|9,_=>rfl|10,_=>rfl|11,_=>rfl
     |j+12,hj=>exact absurd hj (by show ¬j+12<12;omega))) ⟨rfl,rfl⟩) (.inl rfl) ?_
    refine Wy ?_
    repeat' first|refine Z1 ?_|refine Z2 ?_|refine Z5 ?_|refine Zf ?_|refine Jf ?_|refine J3 ?_|refine J4 ?_
    exact⟨(k+1,exL call Z c y {σ with n:=σ.n+1}),⟨hlt,i2,hres⟩,by(try simp only);omega,Jl (Nat.le_of_ble_eq_true rfl) ⟨⟨rfl,rfl⟩,⟨rfl,rfl⟩,⟨rfl,rfl⟩,⟨rfl,rfl⟩,⟨rfl,rfl⟩,⟨rfl,rfl⟩,⟨rfl,rfl⟩,⟨rfl,rfl⟩,⟨rfl,rfl⟩,trivial⟩ ⟨⟨rfl,rfl⟩,⟨rfl,rfl⟩,⟨rfl,rfl⟩,⟨rfl,rfl⟩,⟨rfl,rfl⟩,⟨rfl,rfl⟩,⟨rfl,rfl⟩,⟨rfl,Jk (fun _=>rfl) _⟩,⟨rfl,Je rfl,Jc _ _ _⟩,⟨rfl,Je rfl,Jc _ _ _⟩,trivial⟩⟩
   ·have dz:decide ((sfind σ.F s.name).getD 0≠0)=false:=J1 hz
    rw[if_neg hz]at i2 hn2
    have hres:=J1L (cs:=ds) (call:=call) (Z:=Z) (c:=c) (m:=m) hcall hpres w {σ with n:=σ.n+1} g5 hσ1
    have hrec:=(ih (brsN w) (by omega) w rfl (by omega) g5 {σ with n:=σ.n+1} hσ1 (by omega))
    rw[←J1S]at hrec
    repeat' first|refine Zq ?_|refine J3 ?_
    refine Jv doT [5] Jp (by decide +kernel) ?_
    repeat' first|refine Wl (i:=3) rfl (.inr (.inr (.inr (.inl rfl)))) ?_|refine Wa ?_|refine Wn ?_
    refine We (Yp (hrec.up rfl (fun j o h=>J2Q h) (fun j o h=>J2Q h) rfl rfl (by show 12≤12;omega) (fun j hj=>by
     match j,hj with
     |0,_=>rfl|1,_=>rfl|2,_=>rfl|3,_=>rfl|4,_=>rfl|5,_=>rfl|6,_=>rfl|7,_=>rfl|8,_=>rfl|9,_=>rfl|10,_=>rfl|11,_=>rfl
     |j+12,hj=>exact absurd hj (by show ¬j+12<12;omega))) ⟨rfl,rfl⟩) (.inl rfl) ?_
    refine Wy ?_
    repeat' first|refine Z1 ?_|refine Z2 ?_|refine Z5 ?_|refine Zf ?_|refine Jf ?_|refine J3 ?_|refine J4 ?_
    exact⟨(k+1,exL call Z c w {σ with n:=σ.n+1}),⟨hlt,i2,hres⟩,by(try simp only);omega,Jl (Nat.le_of_ble_eq_true rfl) ⟨⟨rfl,rfl⟩,⟨rfl,rfl⟩,⟨rfl,rfl⟩,⟨rfl,rfl⟩,⟨rfl,rfl⟩,⟨rfl,rfl⟩,⟨rfl,rfl⟩,⟨rfl,rfl⟩,⟨rfl,rfl⟩,trivial⟩ ⟨⟨rfl,rfl⟩,⟨rfl,rfl⟩,⟨rfl,rfl⟩,⟨rfl,rfl⟩,⟨rfl,rfl⟩,⟨rfl,rfl⟩,⟨rfl,rfl⟩,⟨rfl,Jk (fun _=>rfl) _⟩,⟨rfl,Je rfl,Jc _ _ _⟩,⟨rfl,Je rfl,Jc _ _ _⟩,trivial⟩⟩
  have d4:decide (s.kind=4)=false:=J1 k4
  rw[if_neg k4]at i2 hn2
  unfold exS at i2 hn2
  rw[if_neg k1,if_neg k2]at i2 hn2
  by_cases k3:s.kind=3
  ·have d3:decide (s.kind=3)=true:=J0 k3
   rw[if_pos k3]at i2 hn2
   obtain⟨c1,c2,c3,p,g,z,d,hp,hg,hdd,hz,hfz,hal,hol⟩:=g3 k3
   obtain⟨σ1,hs1⟩:∃σ1:MS,σ1={σ with n:=σ.n+1}:=⟨_,rfl⟩
   rw[←hs1]at i2 hn2 hσ1
   have hgl:∀a∈s.args,GoodM c a:=c1
   repeat' first|refine Z1 ?_|refine Z2 ?_|refine Z5 ?_|refine Ju ?_|refine Zd ?_|refine Ze ?_|refine Zf ?_|refine Zo ?_|refine J6 ?_|refine Zp ?_|refine Zq ?_|refine J5 ?_|refine J8 ?_|refine J3 ?_
   refine JC (J2j 10 2 1 rfl) ?_
   refine JX (ι:=Nat×List Int) (fun x_=>envL [(1,.ref 0 0),(2,.ref 1 0),(3,.ref 2 0),(4,.ref 3 0),(5,.ref 4 0),(6,.ref 5 0),(17,.d (.im (l.map eBrP))),(18,vi l.length),(19,vi k),(9,.d (.ip (eBr (.nd s y w)) 0)),(10,.sl 12 13 0 x_.2.length),(96,.d (.im (s.args.map eItms))),(97,vi s.args.length),(98,vi x_.1)]) (fun x_=>stL [some (.var [.ref 6 0]),some (.var [.mp 7]),some (.var [.sl 8 9 P.length (P.length+m)]),some (.var [.fn 71 [.ref 0 0,.ref 1 0,.ref 2 0,.ref 3 0,.ref 4 0,.ref 5 0]]),some (.var ((eCls c).map .d)),some (.var [.sl 10 11 0 fr.length]),some (.var [.d (.im (cs.map eCls)),.d (.ip [.im (Z.map eNum),.im (Bd.map eNum)] 0),.d (.im roots),vi (σ.n+1)]),some (.map .string (smap vi σ.F)),some (.row 9 2 1 (im2 eNum (P++(σ.M++Q)))),none,some (.row 11 3 1 (im2 eNum fr)),none,some (.row 13 2 1 (im2 eNum x_.2)),none]) (fun x_=>x_.1≤s.args.length∧x_.2=(s.args.take x_.1).map (codeV σ1)) (fun x_=>s.args.length-x_.1) (0,[]) (⟨Nat.zero_le _,rfl⟩) Turn.refl (Js [(13,12)] rfl rfl rfl ⟨⟨rfl,rfl⟩,⟨rfl,rfl⟩,⟨rfl,rfl⟩,⟨rfl,rfl⟩,⟨rfl,rfl⟩,⟨rfl,rfl⟩,⟨rfl,rfl⟩,⟨rfl,rfl⟩,⟨rfl,rfl⟩,⟨rfl,rfl⟩,⟨rfl,rfl⟩,⟨rfl,rfl⟩,⟨rfl,rfl⟩,⟨rfl,rfl⟩,trivial⟩ ⟨⟨rfl,rfl⟩,⟨rfl,rfl⟩,⟨rfl,rfl⟩,⟨rfl,rfl⟩,⟨rfl,rfl⟩,⟨rfl,rfl⟩,⟨rfl,rfl⟩,⟨by first|exact Jt _ (fun _=>rfl)|rfl,Jk (fun _=>rfl) _⟩,⟨Jd rfl (by first|exact Jg _ _ _|rfl),Je rfl,Jc _ _ _⟩,⟨Jd rfl (by first|exact Jg _ _ _|rfl),Je rfl,Jc _ _ _⟩,⟨Jd rfl (by first|exact Jg _ _ _|rfl),Je rfl,Jc _ _ _⟩,trivial⟩) ?_
   rintro⟨j,r⟩ ⟨j1,j2⟩
   simp only at j1 j2
   show Ok _ _ _ _ (envL [(1,.ref 0 0),(2,.ref 1 0),(3,.ref 2 0),(4,.ref 3 0),(5,.ref 4 0),(6,.ref 5 0),(17,.d (.im (l.map eBrP))),(18,vi l.length),(19,vi k),(9,.d (.ip (eBr (.nd s y w)) 0)),(10,.sl 12 13 0 r.length),(96,.d (.im (s.args.map eItms))),(97,vi s.args.length),(98,vi j)]) (stL [some (.var [.ref 6 0]),some (.var [.mp 7]),some (.var [.sl 8 9 P.length (P.length+m)]),some (.var [.fn 71 [.ref 0 0,.ref 1 0,.ref 2 0,.ref 3 0,.ref 4 0,.ref 5 0]]),some (.var ((eCls c).map .d)),some (.var [.sl 10 11 0 fr.length]),some (.var [.d (.im (cs.map eCls)),.d (.ip [.im (Z.map eNum),.im (Bd.map eNum)] 0),.d (.im roots),vi (σ.n+1)]),some (.map .string (smap vi σ.F)),some (.row 9 2 1 (im2 eNum (P++(σ.M++Q)))),none,some (.row 11 3 1 (im2 eNum fr)),none,some (.row 13 2 1 (im2 eNum r)),none])
   have hrl:r.length=j:=by rw[j2,List.length_map,List.length_take];omega
   rcases hy:s.args[j]? with _|a
   ·have hge:=Jo hy
    have ej:decide ((j:Int)<(s.args.length:Int))=false:=J1 (by omega)
    have hr:r=s.args.map (codeV σ1):=by rw[j2,List.take_of_length_le hge]
    subst hs1
    subst hr
    obtain⟨s1',s2',s3',s4'⟩:=hσ1
    have hpl:p<c.insts.length:=(List.getElem?_eq_some_iff.1 hg).1
    have hfp:fr[p]? = some (fromZ Z c p:Int):=by rw[hfr];simp[hpl]
    have hfl:p<fr.length:=by rw[hfr];simpa using hpl
    rw[J1E (cs:=cs) hp hg hz]at i2 hn2
    obtain⟨R,hR⟩:∃R,R=call g ((σ.M.drop (fromZ Z c p)).take z) (s.args.map (codeV {σ with n:=σ.n+1})):=⟨_,rfl⟩
    have hσM:σ.M.take (fromZ Z c p)++((σ.M.drop (fromZ Z c p)).take z++σ.M.drop (fromZ Z c p+z))=σ.M:=by
     rw[show σ.M.drop (fromZ Z c p+z)=(σ.M.drop (fromZ Z c p)).drop z from by rw[List.drop_drop],List.take_append_drop,List.take_append_drop]
    have hSl:((σ.M.drop (fromZ Z c p)).take z).length=z:=by rw[List.length_take,List.length_drop];omega
    have hM1:(σ.M.take (fromZ Z c p)).length=fromZ Z c p:=by rw[List.length_take];omega
    have hIr:∀v∈s.args.map (codeV {σ with n:=σ.n+1}),inR v:=fun v hv=>by
     obtain⟨a,ha,rfl⟩:=List.mem_map.1 hv
     exact J0a (c1 a ha) ⟨s1',s2',s3',s4'⟩
    obtain⟨q1,q2,q3,q4⟩:=hpres g d z _ _ hdd hz hSl (by rw[List.length_map];exact hal) (fun v hv=>s3 v (List.mem_of_mem_drop (List.mem_of_mem_take hv))) hIr
    have hcst:=hcall g ((σ.M.drop (fromZ Z c p)).take z) (s.args.map (codeV {σ with n:=σ.n+1}))
    have hcal:=JbA hstep (c:=c) (fr:=fr) (m:=m) (F:=σ.F) hdd hz (M1:=σ.M.take (fromZ Z c p)) (M2:=σ.M.drop (fromZ Z c p+z)) hSl (by rw[List.length_map];exact hal) hPQ.1 (by rw[hσM];exact s3) hPQ.2 hIr (n:=σ.n+1) (by omega) (by
     have:=J20 hcall Z c (l.drop (k+1)) ⟨putAll σ.F s.outs (call g ((σ.M.drop (fromZ Z c p)).take z) (s.args.map (codeV {σ with n:=σ.n+1}))).2.1,σ.M.take (fromZ Z c p)++((call g ((σ.M.drop (fromZ Z c p)).take z) (s.args.map (codeV {σ with n:=σ.n+1}))).1++σ.M.drop (fromZ Z c p+z)),σ.n+1+(call g ((σ.M.drop (fromZ Z c p)).take z) (s.args.map (codeV {σ with n:=σ.n+1}))).2.2⟩
     rw[i2]at this
     dsimp only at this
     omega) (by rw[hM1];omega)
    rw[hσM,hM1]at hcal
    rw[←hR]at hcal i2 hn2 q1 q2 q3 q4 hcst
    have hsum:(fromZ Z c p:Int)+(z:Int)=((fromZ Z c p+z:Nat):Int):=by omega
    repeat' first|refine Z1 ?_|refine Z2 ?_|refine Zo ?_|refine J6 ?_|refine Zq ?_|refine Jh ?_|refine J3 ?_|refine Ja ?_|refine Zv ?_
    refine Jv (fun _=>True) [] Jp (by decide +kernel) ?_
    repeat' first|refine Wl (i:=4) rfl trivial ?_|refine Wa ?_|refine Wn ?_
    refine Wq (fun τ h=>Yej (e:=eNum) p hp hg ⟨rfl,rfl⟩) ?_
    repeat' first|refine Wa ?_
    refine Wy ?_
    repeat' first|refine J6 ?_|refine J3 ?_
    refine JaD (fun τ=>τ.obj 0=some (.var [.ref 6 0])∧τ.obj 2=some (.var [.sl 8 9 P.length (P.length+m)])∧τ.obj 5=some (.var [.sl 10 11 0 fr.length])∧τ.obj 10=some (.row 11 3 1 (im2 eNum fr))∧(∃n,τ.obj 6=some (.var [.d (.im (cs.map eCls)),.d (.ip [.im (Z.map eNum),.im (Bd.map eNum)] 0),.d (.im roots),n]))∧∃rows,τ.obj 8=some (.row 9 2 1 rows)) [32] Jp (by decide +kernel) ⟨rfl,rfl,rfl,rfl,⟨_,rfl⟩,⟨_,rfl⟩⟩ ?_
    repeat' first|refine Vl 0 (fun τ h=>⟨_,h.1,rfl⟩) ?_|refine Vl 2 (fun τ h=>⟨_,h.2.1,rfl⟩) ?_|refine Vl 5 (fun τ h=>⟨_,h.2.2.1,rfl⟩) ?_|refine Va ?_|refine Vn ?_
    refine Vq (fun τ h=>Yi1 p h.2.2.2.1 hp hfl ⟨rfl,rfl⟩) ?_
    refine Vq (fun τ h=>Ye1 h.2.2.2.1 (J0b hfp) ⟨rfl,rfl⟩) ?_
    repeat' first|refine Vl 5 (fun τ h=>⟨_,h.2.2.1,rfl⟩) ?_|refine Va ?_|refine Vn ?_
    refine Vq (fun τ h=>Yi1 p h.2.2.2.1 hp hfl ⟨rfl,rfl⟩) ?_
    refine Vq (fun τ h=>Ye1 h.2.2.2.1 (J0b hfp) ⟨rfl,rfl⟩) ?_
    repeat' first|refine Vl 0 (fun τ h=>⟨_,h.1,rfl⟩) ?_|refine Vl 6 (fun τ h=>⟨_,h.2.2.2.2.1.choose_spec,rfl⟩) ?_|refine Va ?_|refine Vn ?_
    refine Vq (fun τ h=>Yej (e:=eNum) g rfl hz ⟨rfl,rfl⟩) ?_
    refine Va ?_
    refine Vq (fun τ h=>Zf ⟨rfl,rfl⟩) ?_
    refine Vq (fun τ h=>J5J (i:=8) (fromZ Z c p) (fromZ Z c p+z) rfl hsum (by omega) (by omega) rfl rfl rfl rfl rfl rfl rfl h.2.2.2.2.2.choose_spec ⟨rfl,rfl⟩) ?_
    refine Va ?_
    refine Ve (Ym hcal ⟨rfl,rfl⟩) (.inr ⟨rfl,rfl,rfl,rfl,⟨_,rfl⟩,⟨_,rfl⟩⟩) ?_
    refine Va ?_
    refine Vy ?_
    have hres:=J6G (cs:=ds) hcall hpres (g3 k3) (σ:={σ with n:=σ.n+1}) ⟨s1',s2',s3',s4'⟩
    rw[J1E (cs:=ds) hp hg hz,←hR]at hres
    repeat' first|refine Z1 ?_|refine Z2 ?_|refine Z5 ?_|refine Ju ?_|refine Zd ?_|refine Zo ?_|refine J5 ?_|refine J3 ?_
    have hol2:R.2.1.length=s.outs.length:=by rw[q2,hol]
    refine Jq (ι:=Nat×List (ByteArray×Int)) (fun x_=>envL [(1,.ref 0 0),(2,.ref 1 0),(3,.ref 2 0),(4,.ref 3 0),(5,.ref 4 0),(6,.ref 5 0),(17,.d (.im (l.map eBrP))),(18,vi l.length),(19,vi k),(14,.sl 14 15 0 R.2.1.length),(156,.d (.im (s.outs.map eStr))),(157,vi s.outs.length),(158,vi x_.1)]) (fun x_=>stL [some (.var [.ref 6 0]),some (.var [.mp 7]),some (.var [.sl 8 9 P.length (P.length+m)]),some (.var [.fn 71 [.ref 0 0,.ref 1 0,.ref 2 0,.ref 3 0,.ref 4 0,.ref 5 0]]),some (.var ((eCls c).map .d)),some (.var [.sl 10 11 0 fr.length]),some (.var [.d (.im (cs.map eCls)),.d (.ip [.im (Z.map eNum),.im (Bd.map eNum)] 0),.d (.im roots),vi (σ.n+1+R.2.2)]),some (.map .string (smap vi x_.2)),some (.row 9 2 1 (im2 eNum (P++((σ.M.take (fromZ Z c p)++(R.1++σ.M.drop (fromZ Z c p+z)))++Q)))),none,some (.row 11 3 1 (im2 eNum fr)),none,some (.row 13 2 1 (im2 eNum (s.args.map (codeV {σ with n:=σ.n+1})))),none,some (.row 15 2 1 (im2 eNum R.2.1)),none]) (fun x_=>x_.1≤s.outs.length∧putAll x_.2 (s.outs.drop x_.1) (R.2.1.drop x_.1)=putAll σ.F s.outs R.2.1) (fun x_=>s.outs.length-x_.1) (0,σ.F) (⟨Nat.zero_le _,rfl⟩) (Jj rfl ⟨.refl _,.refl _,.refl _,.refl _,.refl _,.refl _,.refl _,.refl _,.refl _,.refl _,.refl _,.refl _,.refl _,trivial⟩ ⟨⟨rfl,_,rfl,rfl,fun _ _ _=>.refl _⟩,⟨rfl,_,rfl,rfl,fun _ _ _=>.refl _⟩,⟨rfl,_,rfl,rfl,fun _ _ _=>.refl _⟩,⟨rfl,_,rfl,rfl,fun _ _ _=>.refl _⟩,⟨rfl,_,rfl,rfl,fun _ _ _=>.refl _⟩,⟨rfl,_,rfl,rfl,fun _ _ _=>.refl _⟩,⟨rfl,_,rfl,rfl,fun _ _ _=>.refl _⟩,⟨rfl,_,rfl,rfl,rfl⟩,⟨rfl,_,rfl,rfl,rfl,rfl,rfl⟩,⟨rfl,_,rfl,rfl,rfl,rfl,rfl⟩,⟨rfl,_,rfl,rfl,rfl,rfl,rfl⟩,⟨rfl,_,rfl,rfl,rfl,rfl,rfl⟩,trivial⟩) (fun _=>Nat.le_refl 16) ?_
    rintro⟨j,F⟩ ⟨j1,j2⟩
    simp only at j1 j2
    show Ok _ _ _ _ (envL [(1,.ref 0 0),(2,.ref 1 0),(3,.ref 2 0),(4,.ref 3 0),(5,.ref 4 0),(6,.ref 5 0),(17,.d (.im (l.map eBrP))),(18,vi l.length),(19,vi k),(14,.sl 14 15 0 R.2.1.length),(156,.d (.im (s.outs.map eStr))),(157,vi s.outs.length),(158,vi j)]) (stL [some (.var [.ref 6 0]),some (.var [.mp 7]),some (.var [.sl 8 9 P.length (P.length+m)]),some (.var [.fn 71 [.ref 0 0,.ref 1 0,.ref 2 0,.ref 3 0,.ref 4 0,.ref 5 0]]),some (.var ((eCls c).map .d)),some (.var [.sl 10 11 0 fr.length]),some (.var [.d (.im (cs.map eCls)),.d (.ip [.im (Z.map eNum),.im (Bd.map eNum)] 0),.d (.im roots),vi (σ.n+1+R.2.2)]),some (.map .string (smap vi F)),some (.row 9 2 1 (im2 eNum (P++((σ.M.take (fromZ Z c p)++(R.1++σ.M.drop (fromZ Z c p+z)))++Q)))),none,some (.row 11 3 1 (im2 eNum fr)),none,some (.row 13 2 1 (im2 eNum (s.args.map (codeV {σ with n:=σ.n+1})))),none,some (.row 15 2 1 (im2 eNum R.2.1)),none])
    rcases hy:s.outs[j]? with _|x
    ·have hge:=Jo hy
     have ej:decide ((j:Int)<(s.outs.length:Int))=false:=J1 (by omega)
     have hF:F=putAll σ.F s.outs R.2.1:=by rw[←j2,List.drop_eq_nil_of_le hge];cases R.2.1.drop j<;>rfl
     subst hF
     repeat' first|refine Z1 ?_|refine Z2 ?_|refine Z5 ?_|refine Zf ?_|refine Zo ?_|refine J6 ?_|refine Jf ?_|refine Zq ?_|refine Jh ?_|refine J3 ?_|refine Ja ?_|refine Zv ?_|refine J4 ?_
     exact⟨(k+1,⟨putAll σ.F s.outs R.2.1,σ.M.take (fromZ Z c p)++(R.1++σ.M.drop (fromZ Z c p+z)),σ.n+1+R.2.2⟩),⟨hlt,i2,hres⟩,by(try simp only);omega,Jl (Nat.le_of_ble_eq_true rfl) ⟨⟨rfl,rfl⟩,⟨rfl,rfl⟩,⟨rfl,rfl⟩,⟨rfl,rfl⟩,⟨rfl,rfl⟩,⟨rfl,rfl⟩,⟨rfl,rfl⟩,⟨rfl,rfl⟩,⟨rfl,rfl⟩,trivial⟩ ⟨⟨rfl,rfl⟩,⟨rfl,rfl⟩,⟨rfl,rfl⟩,⟨rfl,rfl⟩,⟨rfl,rfl⟩,⟨rfl,rfl⟩,⟨rfl,rfl⟩,⟨rfl,Jk (fun _=>rfl) _⟩,⟨rfl,Je rfl,Jc _ _ _⟩,⟨rfl,Je rfl,Jc _ _ _⟩,trivial⟩⟩
    obtain⟨hd3,hlt3⟩:=Ji hy
    have ej:decide ((j:Int)<(s.outs.length:Int))=true:=J0 (by omega)
    obtain⟨v,hv⟩:∃v,R.2.1[j]? = some v:=⟨_,List.getElem?_eq_getElem (by omega)⟩
    obtain⟨hd4,hlt4⟩:=Ji hv
    rw[hd3,hd4]at j2
    simp only[putAll]at j2
    repeat' first|refine Z1 ?_|refine Z2 ?_|refine Z5 ?_|refine Ze ?_|refine Zo ?_|refine J6 ?_|refine Zp ?_|refine J5 ?_|refine J8 ?_|refine J3 ?_
    refine Jv (fun _=>True) [6] Jp (by decide +kernel) ?_
    repeat' first|refine Wl (i:=1) rfl trivial ?_|refine Wa ?_
    refine Wq (fun τ h=>Yi1 (i:=14) j ((h 14 trivial).trans rfl) rfl hlt4 ⟨rfl,rfl⟩) ?_
    refine Wq (fun τ h=>Ye1 (i:=14) ((h 14 trivial).trans rfl) (J0b hv) ⟨rfl,rfl⟩) ?_
    refine We (Yc (F:=F) (e:=vi) (b:=v) (i:=7) ⟨rfl,rfl⟩) (.inl rfl) ?_
    refine Wy ?_
    repeat' first|refine Z1 ?_|refine Z2 ?_|refine Z5 ?_|refine Zf ?_|refine Jf ?_|refine J3 ?_|refine J4 ?_
    exact⟨(j+1,sput F x v),⟨hlt3,j2⟩,by(try simp only);omega,Jl (Nat.le_of_ble_eq_true rfl) ⟨⟨rfl,rfl⟩,⟨rfl,rfl⟩,⟨rfl,rfl⟩,⟨rfl,rfl⟩,⟨rfl,rfl⟩,⟨rfl,rfl⟩,⟨rfl,rfl⟩,⟨rfl,rfl⟩,⟨rfl,rfl⟩,⟨rfl,rfl⟩,⟨rfl,rfl⟩,⟨rfl,rfl⟩,⟨rfl,rfl⟩,trivial⟩ ⟨⟨rfl,rfl⟩,⟨rfl,rfl⟩,⟨rfl,rfl⟩,⟨rfl,rfl⟩,⟨rfl,rfl⟩,⟨rfl,rfl⟩,⟨rfl,rfl⟩,⟨rfl,Jk (fun _=>rfl) _⟩,⟨rfl,Je rfl,Jc _ _ _⟩,⟨rfl,Je rfl,Jc _ _ _⟩,⟨rfl,Je rfl,Jc _ _ _⟩,⟨rfl,Je rfl,Jc _ _ _⟩,trivial⟩⟩
   have hlt2:j<s.args.length:=(List.getElem?_eq_some_iff.1 hy).1
   have ej:decide ((j:Int)<(s.args.length:Int))=true:=J0 (by omega)
   have hgm:=hgl a (List.mem_of_getElem? hy)
   repeat' first|refine Z1 ?_|refine Z2 ?_|refine Z3 ?_|refine Z4 ?_|refine Z5 ?_|refine Ym (J4N (σ:={σ with n:=σ.n+1}) hgm hm (hs1▸hσ1) hPQ rfl rfl) ?_|refine Yl (e:=eNum) (l:=r) [codeV {σ with n:=σ.n+1} a] ?_|refine Ze ?_|refine Zf ?_|refine Zo ?_|refine J6 ?_|refine Jf ?_|refine Zp ?_|refine J5 ?_|refine J8 ?_|refine J3 ?_|refine J4 ?_
   exact⟨(j+1,r++[codeV {σ with n:=σ.n+1} a]),⟨hlt2,by rw[j2,JT hy,List.map_append,←hs1];rfl⟩,by(try simp only);omega,Js [(13,15)] rfl rfl rfl ⟨⟨rfl,rfl⟩,⟨rfl,rfl⟩,⟨rfl,rfl⟩,⟨rfl,rfl⟩,⟨rfl,rfl⟩,⟨rfl,rfl⟩,⟨rfl,rfl⟩,⟨rfl,rfl⟩,⟨rfl,rfl⟩,⟨rfl,rfl⟩,⟨rfl,rfl⟩,⟨rfl,rfl⟩,⟨rfl,rfl⟩,⟨rfl,rfl⟩,trivial⟩ ⟨⟨rfl,rfl⟩,⟨rfl,rfl⟩,⟨rfl,rfl⟩,⟨rfl,rfl⟩,⟨rfl,rfl⟩,⟨rfl,rfl⟩,⟨rfl,rfl⟩,⟨by first|exact Jt _ (fun _=>rfl)|rfl,Jk (fun _=>rfl) _⟩,⟨Jd rfl (by first|exact Jg _ _ _|rfl),Je rfl,Jc _ _ _⟩,⟨Jd rfl (by first|exact Jg _ _ _|rfl),Je rfl,Jc _ _ _⟩,⟨Jd rfl (by first|exact Jg _ _ _|rfl),Je rfl,Jc _ _ _⟩,trivial⟩⟩
  have d3:decide (s.kind=3)=false:=J1 k3
  rw[if_neg k3]at i2 hn2
  repeat' first|refine Z1 ?_|refine Z2 ?_|refine Z5 ?_|refine Ju ?_|refine Ze ?_|refine Zf ?_|refine Zo ?_|refine J6 ?_|refine Jf ?_|refine Zp ?_|refine Zq ?_|refine J5 ?_|refine J8 ?_|refine J3 ?_|refine J4 ?_
  exact⟨(k+1,{σ with n:=σ.n+1}),⟨hlt,i2,hσ1⟩,by(try simp only);omega,Jl (Nat.le_of_ble_eq_true rfl) ⟨⟨rfl,rfl⟩,⟨rfl,rfl⟩,⟨rfl,rfl⟩,⟨rfl,rfl⟩,⟨rfl,rfl⟩,⟨rfl,rfl⟩,⟨rfl,rfl⟩,⟨rfl,rfl⟩,⟨rfl,rfl⟩,trivial⟩ ⟨⟨rfl,rfl⟩,⟨rfl,rfl⟩,⟨rfl,rfl⟩,⟨rfl,rfl⟩,⟨rfl,rfl⟩,⟨rfl,rfl⟩,⟨rfl,rfl⟩,⟨rfl,Jk (fun _=>rfl) _⟩,⟨rfl,Je rfl,Jc _ _ _⟩,⟨rfl,Je rfl,Jc _ _ _⟩,trivial⟩⟩
end Go.Pm
/- Part of the proof: Sh4. -/
namespace Go.Pm
attribute [local irreducible] AR Ok inBlock andThen endQ aoper
set_option maxHeartbeats 4000000
open Go.Proofs
def rnSt (τ:St) (cs:List Cls) (pl:D) (k:Nat) (c:Cls) (i v hv s:Nat) (F:List (ByteArray×Int)) (M:List Int) (n:Int):St:=
 ⟨fun j=>if j=i then some (runV cs pl k c v hv (nmsC c).length τ.next (τ.next+1) M.length n)else if j=v then some (.row hv 3 1 (im2 eNum (vals c F)))else if j=s then none else if j=τ.next then some (.row (τ.next+1) 3 1 (im2 eNum M))else τ.obj j,τ.next+2⟩
def rnE (cs:List Cls) (pl:D) (k:Nat) (c:Cls) (F:List (ByteArray×Int)) (M:List Int) (n:Int):List (Option AO):=
 [some (runV cs pl k c 1 2 (nmsC c).length 5 6 M.length n),some (.row 2 3 1 (im2 eNum (vals c F))),none,none,none,some (.row 6 3 1 (im2 eNum M)),none]
theorem J4r {cs:List Cls} {pl:D} {k:Nat} {c:Cls} {v hv nv s hs ns:Nat} {n:Int} (π:Nat→Nat):renO π (runV cs pl k c v hv nv s hs ns n)=runV cs pl k c (π v) (π hv) nv (π s) (π hs) ns n:=by
 unfold runV
 simp only[renO]
 rw[JF,List.map_append,List.map_append]
 congr 2
theorem J9X:Pm.low 0 (.tup [])=true:=rfl
theorem J6p {cs:List Cls} {pl:D} {k:Nat} {c:Cls} {F F':List (ByteArray×Int)} {M M':List Int} {n n' a b:Int} {f:FuncId}
  (h:AFun X f [.ref 0 0,vi a,vi b] (stL (rnO cs pl k c F M n)) fun E σ'=>E=.ret (.tup [])∧σ'=stL (rnE cs pl k c F' M' n')) {i v hv s hs:Nat} (hiv:i≠v) (his:i≠s) (hvs:v≠s) {τ:St}
  (h0:τ.obj i=some (runV cs pl k c v hv (nmsC c).length s hs M.length n)) (h1:τ.obj v=some (.row hv 3 1 (im2 eNum (vals c F)))) (h3:τ.obj s=some (.row hs 3 1 (im2 eNum M))):
  AFun X f [.ref i 0,vi a,vi b] τ fun E σ'=>E=.ret (.tup [])∧σ'=rnSt τ cs pl k c i v hv s F' M' n':=by
 refine AFun.wfr h.1 fun wf1 wf2=>?_
 have bi:=wf1 _ _ h0
 have bv:=wf1 _ _ h1
 have bs:=wf1 _ _ h3
 have bhv:=wf2 _ _ _ _ _ h1
 have bhs:=wf2 _ _ _ _ _ h3
 have one:∀(j:Nat) (o:AO),((rnO cs pl k c F M n)[j]?).join=some o→(j=0∧o=runV cs pl k c 1 2 (nmsC c).length 3 4 M.length n)∨(j=1∧o=.row 2 3 1 (im2 eNum (vals c F)))∨(j=3∧o=.row 4 3 1 (im2 eNum M)):=fun j o h=>by
  unfold rnO at h
  match j,h with
  |0,h=>cases h;exact .inl ⟨rfl,rfl⟩
  |1,h=>cases h;exact .inr (.inl ⟨rfl,rfl⟩)
  |2,h=>cases h
  |3,h=>cases h;exact .inr (.inr ⟨rfl,rfl⟩)
  |4,h=>cases h
  |j+5,h=>simp at h
 have hd:dist [i,v,hv,s,hs] (rnO cs pl k c F M n):=by
  refine⟨fun d o q1 q2=>?_,fun d o q1 q2=>?_,fun d o q1 q2=>?_,trivial⟩
  ·match d,q1,q2 with
   |0,q1,_=>exact hiv (Option.some.inj q1).symm
   |1,_,q2=>cases q2
   |2,q1,_=>exact his (Option.some.inj q1).symm
   |3,_,q2=>cases q2
   |d+4,q1,_=>simp at q1
  ·match d,q1,q2 with
   |0,_,q2=>cases q2
   |1,q1,_=>exact hvs (Option.some.inj q1).symm
   |2,_,q2=>cases q2
   |d+3,q1,_=>simp at q1
  ·match d,q1,q2 with
   |0,_,q2=>cases q2
   |d+1,q1,_=>simp at q1
 have h2:=AFun.emb h [i,v,hv,s,hs] rfl hd (σ:=τ) (fun j hj=>by
  match j,hj with
  |0,_=>exact bi
  |1,_=>exact bv
  |2,_=>exact bhv
  |3,_=>exact bs
  |4,_=>exact bhs
  |j+5,hj=>exact absurd hj (by show ¬j+5<5;omega)) (fun j o hj=>by
  rcases one j o hj with⟨rfl,rfl⟩|⟨rfl,rfl⟩|⟨rfl,rfl⟩
  ·refine⟨?_,(J4Z hj).2⟩
   rw[J4r];exact h0
  ·refine⟨?_,(J4Z hj).2⟩
   exact h1.trans (Jd rfl (Jg _ _ _))
  ·refine⟨?_,(J4Z hj).2⟩
   exact h3.trans (Jd rfl (Jg _ _ _))) rfl
 have hix:∀j,j≠i→j≠v→j≠s→idx [i,v,hv,s,hs] (rnO cs pl k c F M n) 0 j=none:=fun j a b d=>by
  show(if j=i then some 0 else if j=v then some 1 else(if j=s then some 3 else none))=none
  rw[if_neg a,if_neg b,if_neg d]
 have hi0:idx [i,v,hv,s,hs] (rnO cs pl k c F M n) 0 i=some 0:=if_pos rfl
 have hi1:idx [i,v,hv,s,hs] (rnO cs pl k c F M n) 0 v=some 1:=by
  show(if v=i then some 0 else if v=v then some 1 else(if v=s then some 3 else none))=_
  rw[if_neg (Ne.symm hiv),if_pos rfl]
 have hi3:idx [i,v,hv,s,hs] (rnO cs pl k c F M n) 0 s=some 3:=by
  show(if s=i then some 0 else if s=v then some 1 else(if s=s then some 3 else none))=_
  rw[if_neg (Ne.symm his),if_neg (Ne.symm hvs),if_pos rfl]
 refine AFun.keep2 J9X (h2.mono ?_)
 rintro E σ' ⟨rfl,rfl⟩
 refine⟨rfl,rfl,fun j o ho=>?_⟩
 have emb_at:∀q,j<τ.next→idx [i,v,hv,s,hs] (rnO cs pl k c F M n) 0 j=some q→(embSt [i,v,hv,s,hs] (rnO cs pl k c F M n) (rnE cs pl k c F' M' n') τ).obj j=(((rnE cs pl k c F' M' n')[q]?).join).map (renO (ext 5 τ.next (nmb [i,v,hv,s,hs]))):=fun q hj hq=>by
  unfold embSt mrg
  refine(if_pos hj).trans ?_
  rw[hq];rfl
 have e5:ext 5 τ.next (nmb [i,v,hv,s,hs]) 5=τ.next:=rfl
 have e6:ext 5 τ.next (nmb [i,v,hv,s,hs]) 6=τ.next+1:=rfl
 have hq:(if j=i then some (runV cs pl k c v hv (nmsC c).length τ.next (τ.next+1) M'.length n')else if j=v then some (.row hv 3 1 (im2 eNum (vals c F')))else if j=s then none else if j=τ.next then some (.row (τ.next+1) 3 1 (im2 eNum M'))else τ.obj j)=some o:=ho
 by_cases e0:j=i
 ·subst e0
  rw[if_pos rfl]at hq
  rw[emb_at 0 bi hi0,←Option.some.inj hq]
  show some (renO _ (runV cs pl k c 1 2 (nmsC c).length 5 6 M'.length n'))=_
  rw[J4r];rfl
 rw[if_neg e0]at hq
 by_cases e1:j=v
 ·subst e1
  rw[if_pos rfl]at hq
  rw[emb_at 1 bv hi1,←Option.some.inj hq]
  show some (renO _ (.row 2 _ 1 (im2 eNum (vals c F'))))=_
  exact(Jd rfl (Jg _ _ _)).symm
 rw[if_neg e1]at hq
 by_cases e3:j=s
 ·rw[if_pos e3]at hq;cases hq
 rw[if_neg e3]at hq
 by_cases e7:j=τ.next
 ·rw[if_pos e7]at hq
  subst e7
  rw[←Option.some.inj hq]
  unfold embSt mrg
  refine(if_neg (Nat.lt_irrefl _)).trans ?_
  have:τ.next-τ.next+(stL (rnO cs pl k c F M n)).next=5:=by rw[Nat.sub_self,Nat.zero_add];rfl
  rw[this]
  show some (renO _ (.row 6 _ 1 (im2 eNum M')))=_
  exact(Jd rfl (Jg _ _ _)).symm
 rw[if_neg e7]at hq
 unfold embSt mrg
 refine(if_pos (wf1 j o hq)).trans ?_
 rw[hix j e0 e1 e3]
 exact hq
end Go.Pm
