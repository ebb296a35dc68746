/- Part of the proof: Mc5. -/
import Derived.Test.YtdjanhhljinokaaGreatDoorT10
import Derived.Test.YtdjanhhljinokaaGreatDoorT24
import Derived.Test.YtdjanhhljinokaaGreatDoorT15
set_option linter.unusedVariables false
set_option linter.unusedSimpArgs false
namespace Go.Pm
attribute [local irreducible] AR Ok inBlock andThen endQ aoper
set_option maxHeartbeats 8000000
open Go.Proofs
noncomputable def bCode:Code:=subc [true,true,true,true,false,true,false,false,true,true,false,false,true,true,true,true,true,true,true,true,true,true,true,true,true,true,false,true,false,false] (Tryz.f70.body.getD .skip)
abbrev Bx:=Nat×List ByteArray×Nat×Vm
def bE (cs:List Cls) (c:Cls) (k:Nat) (n:Int) (x:Bx):Env:=envL [(1,.ref 0 0),(4,.ref 2 0),(5,.mp 3),(52,.d (.im (cs.map eCls))),(53,vi cs.length),(54,vi k),(6,vi k),(7,.ref 8 0),(8,.ref 10 0),(9,.fn 115 [.ref 10 0]),(16,vi n),(22,.ref 13 0),(23,.fn 116 [.ref 10 0,.ref 13 0]),(198,.d (.im (c.body.map eSm))),(199,vi c.body.length),(200,vi x.1),(21,.sl 14 15 0 x.2.2.1)]
def bS (cs:List Cls) (c:Cls) (N:List (ByteArray×Bool)) (Z B:List Int) (F:Vm) (x:Bx):St:=stL [some (.var [.d (.im (cs.map eCls))]),some (.var [.sl 4 6 0 Z.length,.sl 5 7 0 B.length]),some (.var [.ref 1 0]),some (.map .string (smap vb N)),some (.row 6 3 1 (im2 eNum Z)),some (.row 7 3 1 (im2 eNum B)),none,none,some (.var ((eCls c).map .d)),some (.map .string (smap vi F)),some (.var [.mp 9]),none,some (.map .string (smap vi x.2.2.2)),some (.var [.mp 12]),some (.row 15 9 1 (im2 eStr x.2.1)),none]
def bInv (cs:List Cls) (c:Cls) (F:Vm) (G:Unit→Option (List Int×List Int)) (M:Option (List Int×List Int)) (x:Bx):Prop:=
 x.1≤c.body.length∧x.2.2.1≤x.1∧x.2.2.1≤x.2.1.length∧(∀s,-(x.1:Int)≤wget x.2.2.2 s∧wget x.2.2.2 s≤(x.1:Int))∧(∀s∈c.body.take x.1,s.kind=3→0≤s.pos∧s.pos<(c.insts.length:Int))∧(bodyGo cs c F (c.body.drop x.1) (x.2.1.take x.2.2.1) x.2.2.2).bind G=M
theorem Jc2 {a b:Bool} (h:b=a):Frz none (vb a) (vb b):=by rw[h];exact .refl _
theorem J8w (W:Vm) (s u:ByteArray) (v:Int):wget (sput W s v) u=if u=s then v else wget W u:=by
 unfold wget
 rw[JG]
 split<;>rfl
theorem J81 {W:Vm} {q:Nat} {s:ByteArray} {v:Int} (h:∀u,-(q:Int)≤wget W u∧wget W u≤(q:Int)) (hv:-((q:Int)+1)≤v∧v≤(q:Int)+1):∀u,-((q+1:Nat):Int)≤wget (sput W s v) u∧wget (sput W s v) u≤((q+1:Nat):Int):=by
 intro u
 have:=h u
 rw[J8w]
 split<;>omega
theorem J7c {cs:List Cls} {c:Cls} {k:Nat} {n:Int} {N:List (ByteArray×Bool)} {Z B:List Int} {F:Vm} {G:Unit→Option (List Int×List Int)} {M:Option (List Int×List Int)} {Q:Exit→Env→St→Prop}
  (hcl:cs.length≤1048576) (hk:k<cs.length) (hb:c.body.length≤30000) (hwb:∀s∈c.body,wSm s≤1048576) (hil:c.insts.length≤1000) (hml:c.mems.length≤1000) (hin:∀g∈c.insts,0≤g∧g<(k:Int))
  (hret:none=M→∀env σ,env 2=.d (.s (.pointer none))→env 3=vb false→Q .ret env σ) (x:Bx) (hi:bInv cs c F G M x) (hx:x.1<c.body.length):
  Ok X 475 bCode (andThen (fun env σ=>∃y,bInv cs c F G M y∧c.body.length-y.1<c.body.length-x.1∧∃π,LowR 15 π env σ (bE cs c k n y) (bS cs c N Z B F y)) Q) (bE cs c k n x) (bS cs c N Z B F x):=by
 obtain⟨q,J,m,W⟩:=x
 obtain⟨i1,i2,i3,i4,i5,i6⟩:=hi
 simp only at i1 i2 i3 i4 i5 i6 hx
 obtain⟨s,hs⟩:∃s,c.body[q]? = some s:=⟨c.body[q],List.getElem?_eq_getElem hx⟩
 obtain⟨hd,hlt⟩:=Jc hs
 have eq1:decide ((q:Int)<(c.body.length:Int))=true:=J0 (by omega)
 have hws:=hwb s (List.mem_of_getElem? hs)
 simp only[wSm,wL]at hws
 rw[hd]at i6
 simp only[bodyGo]at i6
 have hSl:(J.take m).length=m:=by rw[List.length_take];omega
 unfold stmI at i6
 rw[hSl]at i6
 unfold bE bS
 dsimp only
 refine Zo ?_
 repeat' first|refine Z1 ?_|refine Z2 ?_
 refine J5 ?_
 refine Zp ?_
 refine J7 ?_
 refine J3 ?_
 refine J5 ?_
 refine J4 ?_
 refine Zo ?_
 repeat' first|refine Z1 ?_|refine Z2 ?_|refine Z5 ?_|refine Ze ?_
 refine J5 ?_
 refine J1H (envL [(216,vb (b1 s m)),(1,.ref 0 0),(4,.ref 2 0),(5,.mp 3),(52,.d (.im (cs.map eCls))),(53,vi cs.length),(54,vi k),(6,vi k),(7,.ref 8 0),(8,.ref 10 0),(9,.fn 115 [.ref 10 0]),(16,vi n),(22,.ref 13 0),(23,.fn 116 [.ref 10 0,.ref 13 0]),(198,.d (.im (c.body.map eSm))),(199,vi c.body.length),(200,vi q),(21,.sl 14 15 0 m),(25,.ref 16 0)]) (stL [some (.var [.d (.im (cs.map eCls))]),some (.var [.sl 4 6 0 Z.length,.sl 5 7 0 B.length]),some (.var [.ref 1 0]),some (.map .string (smap vb N)),some (.row 6 3 1 (im2 eNum Z)),some (.row 7 3 1 (im2 eNum B)),none,none,some (.var ((eCls c).map .d)),some (.map .string (smap vi F)),some (.var [.mp 9]),none,some (.map .string (smap vi W)),some (.var [.mp 12]),some (.row 15 9 1 (im2 eStr J)),none,some (.var ((eSm s).map .d))]) ?_ ?_
 ·
  repeat' first|refine Z1 ?_|refine Z3 ?_|refine Z5 ?_|refine Z7 ?_|refine Z8 ?_|refine Za (fun hc=>?_) (fun hc=>?_)|refine Zh ?_|refine Zi ?_|refine Zl ?_|refine Zm ?_|refine Jd ?_
  all_goals exact⟨rfl,Jg rfl ⟨Jc2 (by simp only[b1, *];try rfl),.refl _,.refl _,.refl _,.refl _,.refl _,.refl _,.refl _,.refl _,.refl _,.refl _,.refl _,.refl _,.refl _,.refl _,.refl _,.refl _,.refl _,.refl _,trivial⟩ ⟨⟨rfl,_,rfl,rfl,fun _ _ _=>.refl _⟩,⟨rfl,_,rfl,rfl,fun _ _ _=>.refl _⟩,⟨rfl,_,rfl,rfl,fun _ _ _=>.refl _⟩,⟨rfl,_,rfl,rfl,rfl⟩,⟨rfl,_,rfl,rfl,rfl,rfl,rfl⟩,⟨rfl,_,rfl,rfl,rfl,rfl,rfl⟩,⟨rfl,_,rfl,rfl,fun _ _ _=>.refl _⟩,⟨rfl,_,rfl,rfl,rfl⟩,⟨rfl,_,rfl,rfl,fun _ _ _=>.refl _⟩,⟨rfl,_,rfl,rfl,rfl⟩,⟨rfl,_,rfl,rfl,fun _ _ _=>.refl _⟩,⟨rfl,_,rfl,rfl,rfl,rfl,rfl⟩,⟨rfl,_,rfl,rfl,fun _ _ _=>.refl _⟩,trivial⟩⟩
 cases hb1:b1 s m with
 |true=>
  rw[if_pos hb1]at i6
  repeat' first|refine Z1 ?_|refine Z2 ?_|refine Zo ?_|refine Zp ?_|refine J9 ?_|refine J8 ?_|refine Ja ?_
  exact hret i6 _ _ rfl rfl
 |false=>
 rw[if_neg (by rw[hb1];simp)]at i6
 refine Zq ?_
 refine J7 ?_
 refine J3 ?_
 refine J5 ?_
 refine J1H (envL [(244,vb (b2 s)),(1,.ref 0 0),(4,.ref 2 0),(5,.mp 3),(52,.d (.im (cs.map eCls))),(53,vi cs.length),(54,vi k),(6,vi k),(7,.ref 8 0),(8,.ref 10 0),(9,.fn 115 [.ref 10 0]),(16,vi n),(22,.ref 13 0),(23,.fn 116 [.ref 10 0,.ref 13 0]),(198,.d (.im (c.body.map eSm))),(199,vi c.body.length),(200,vi q),(21,.sl 14 15 0 m),(25,.ref 16 0)]) (stL [some (.var [.d (.im (cs.map eCls))]),some (.var [.sl 4 6 0 Z.length,.sl 5 7 0 B.length]),some (.var [.ref 1 0]),some (.map .string (smap vb N)),some (.row 6 3 1 (im2 eNum Z)),some (.row 7 3 1 (im2 eNum B)),none,none,some (.var ((eCls c).map .d)),some (.map .string (smap vi F)),some (.var [.mp 9]),none,some (.map .string (smap vi W)),some (.var [.mp 12]),some (.row 15 9 1 (im2 eStr J)),none,some (.var ((eSm s).map .d))]) ?_ ?_
 ·
  repeat' first|refine Z1 ?_|refine Z3 ?_|refine Z5 ?_|refine Z6 ?_|refine Z7 ?_|refine Z8 ?_|refine Z9 ?_|refine Za (fun hc=>?_) (fun hc=>?_)|refine Zb (fun hc=>?_) (fun hc=>?_)|refine Zh ?_|refine Zi ?_|refine Zl ?_|refine Zm ?_|refine Jd ?_
  all_goals exact⟨rfl,Jg rfl ⟨Jc2 (by simp only[b2, *];try rfl),.refl _,.refl _,.refl _,.refl _,.refl _,.refl _,.refl _,.refl _,.refl _,.refl _,.refl _,.refl _,.refl _,.refl _,.refl _,.refl _,.refl _,.refl _,trivial⟩ ⟨⟨rfl,_,rfl,rfl,fun _ _ _=>.refl _⟩,⟨rfl,_,rfl,rfl,fun _ _ _=>.refl _⟩,⟨rfl,_,rfl,rfl,fun _ _ _=>.refl _⟩,⟨rfl,_,rfl,rfl,rfl⟩,⟨rfl,_,rfl,rfl,rfl,rfl,rfl⟩,⟨rfl,_,rfl,rfl,rfl,rfl,rfl⟩,⟨rfl,_,rfl,rfl,fun _ _ _=>.refl _⟩,⟨rfl,_,rfl,rfl,rfl⟩,⟨rfl,_,rfl,rfl,fun _ _ _=>.refl _⟩,⟨rfl,_,rfl,rfl,rfl⟩,⟨rfl,_,rfl,rfl,fun _ _ _=>.refl _⟩,⟨rfl,_,rfl,rfl,rfl,rfl,rfl⟩,⟨rfl,_,rfl,rfl,fun _ _ _=>.refl _⟩,trivial⟩⟩
 cases hb2:b2 s with
 |true=>
  rw[if_pos hb2]at i6
  repeat' first|refine Z1 ?_|refine Z2 ?_|refine Zo ?_|refine Zp ?_|refine J9 ?_|refine J8 ?_|refine Ja ?_
  exact hret i6 _ _ rfl rfl
 |false=>
 rw[if_neg (by rw[hb2];simp)]at i6
 refine Zq ?_
 refine J7 ?_
 refine J3 ?_
 refine J5 ?_
 refine J1H (envL [(275,vb (b3 s)),(1,.ref 0 0),(4,.ref 2 0),(5,.mp 3),(52,.d (.im (cs.map eCls))),(53,vi cs.length),(54,vi k),(6,vi k),(7,.ref 8 0),(8,.ref 10 0),(9,.fn 115 [.ref 10 0]),(16,vi n),(22,.ref 13 0),(23,.fn 116 [.ref 10 0,.ref 13 0]),(198,.d (.im (c.body.map eSm))),(199,vi c.body.length),(200,vi q),(21,.sl 14 15 0 m),(25,.ref 16 0)]) (stL [some (.var [.d (.im (cs.map eCls))]),some (.var [.sl 4 6 0 Z.length,.sl 5 7 0 B.length]),some (.var [.ref 1 0]),some (.map .string (smap vb N)),some (.row 6 3 1 (im2 eNum Z)),some (.row 7 3 1 (im2 eNum B)),none,none,some (.var ((eCls c).map .d)),some (.map .string (smap vi F)),some (.var [.mp 9]),none,some (.map .string (smap vi W)),some (.var [.mp 12]),some (.row 15 9 1 (im2 eStr J)),none,some (.var ((eSm s).map .d))]) ?_ ?_
 ·
  repeat' first|refine Z1 ?_|refine Z3 ?_|refine Z5 ?_|refine Z6 ?_|refine Z7 ?_|refine Z8 ?_|refine Z9 ?_|refine Za (fun hc=>?_) (fun hc=>?_)|refine Zb (fun hc=>?_) (fun hc=>?_)|refine Zd ?_|refine Zh ?_|refine Zi ?_|refine Zl ?_|refine Zm ?_|refine Jd ?_
  all_goals exact⟨rfl,Jg rfl ⟨Jc2 (by simp only[b3, *];try rfl),.refl _,.refl _,.refl _,.refl _,.refl _,.refl _,.refl _,.refl _,.refl _,.refl _,.refl _,.refl _,.refl _,.refl _,.refl _,.refl _,.refl _,.refl _,trivial⟩ ⟨⟨rfl,_,rfl,rfl,fun _ _ _=>.refl _⟩,⟨rfl,_,rfl,rfl,fun _ _ _=>.refl _⟩,⟨rfl,_,rfl,rfl,fun _ _ _=>.refl _⟩,⟨rfl,_,rfl,rfl,rfl⟩,⟨rfl,_,rfl,rfl,rfl,rfl,rfl⟩,⟨rfl,_,rfl,rfl,rfl,rfl,rfl⟩,⟨rfl,_,rfl,rfl,fun _ _ _=>.refl _⟩,⟨rfl,_,rfl,rfl,rfl⟩,⟨rfl,_,rfl,rfl,fun _ _ _=>.refl _⟩,⟨rfl,_,rfl,rfl,rfl⟩,⟨rfl,_,rfl,rfl,fun _ _ _=>.refl _⟩,⟨rfl,_,rfl,rfl,rfl,rfl,rfl⟩,⟨rfl,_,rfl,rfl,fun _ _ _=>.refl _⟩,trivial⟩⟩
 cases hb3:b3 s with
 |true=>
  rw[if_pos hb3]at i6
  repeat' first|refine Z1 ?_|refine Z2 ?_|refine Zo ?_|refine Zp ?_|refine J9 ?_|refine J8 ?_|refine Ja ?_
  exact hret i6 _ _ rfl rfl
 |false=>
 rw[if_neg (by rw[hb3];simp)]at i6
 refine Zq ?_
 refine J7 ?_
 refine J3 ?_
 have tk:∀{u:Sm},u∈c.body.take (q+1)→u∈c.body.take q∨u=s:=by
  intro u hu
  rw[J52 hs]at hu
  simpa using hu
 have i4':∀u,-((q+1:Nat):Int)≤wget W u∧wget W u≤((q+1:Nat):Int):=fun u=>by have:=i4 u;omega
 have nx:∀{J':List ByteArray} {m':Nat} {W':Vm},m'≤q+1→m'≤J'.length→(∀u,-((q+1:Nat):Int)≤wget W' u∧wget W' u≤((q+1:Nat):Int))→(s.kind=3→0≤s.pos∧s.pos<(c.insts.length:Int))→(bodyGo cs c F (c.body.drop (q+1)) (J'.take m') W').bind G=M→bInv cs c F G M (q+1,J',m',W'):=by
  intro J' m' W' a1 a2 a3 a4 a5
  refine⟨hlt,a1,a2,a3,fun u hu h3=>?_,a5⟩
  rcases tk hu with h|rfl
  ·exact i5 u h h3
  ·exact a4 h3
 by_cases k1:s.kind=1
 ·have q1:decide (s.kind=1)=true:=J0 k1
  rw[if_pos k1]at i6
  cases hg:givenI F W s.name with
  |false=>
   have n1:(!givenI F W s.name)=true:=by rw[hg];rfl
   rw[if_neg (by rw[hg];simp)]at i6
   repeat' first|refine Z1 ?_|refine Z2 ?_|refine Z5 ?_|refine Z9 ?_|refine Yp (J1y (F:=F) (W:=W) (i:=10) (j:=9) (i':=13) (j':=12) rfl rfl rfl rfl s.name) ?_|refine Zl ?_|refine Zo ?_|refine Zp ?_|refine J4 ?_|refine J9 ?_|refine J8 ?_|refine Ja ?_
   exact hret i6 _ _ rfl rfl
  |true=>
   have n1:(!givenI F W s.name)=false:=by rw[hg];rfl
   cases hc:codeI F (c.mems.length:Int) s.code with
   |false=>
    have n2:(!codeI F (c.mems.length:Int) s.code)=true:=by rw[hc];rfl
    rw[if_neg (by rw[hc];simp)]at i6
    repeat' first|refine Z1 ?_|refine Z2 ?_|refine Z5 ?_|refine Z7 ?_|refine Yp (J1y (F:=F) (W:=W) (i:=10) (j:=9) (i':=13) (j':=12) rfl rfl rfl rfl s.name) ?_|refine Ym (J26 F (c.mems.length:Int) s.code (by omega) (i:=9) (Je rfl) rfl) ?_|refine Zd ?_|refine Zi ?_|refine Zm ?_|refine Zo ?_|refine Zp ?_|refine J4 ?_|refine J9 ?_|refine J8 ?_|refine Ja ?_
    exact hret i6 _ _ rfl rfl
   |true=>
    have n2:(!codeI F (c.mems.length:Int) s.code)=false:=by rw[hc];rfl
    rw[if_pos ⟨hg,hc⟩]at i6
    repeat' first|refine Z1 ?_|refine Z2 ?_|refine Z5 ?_|refine Z7 ?_|refine Yp (J1y (F:=F) (W:=W) (i:=10) (j:=9) (i':=13) (j':=12) rfl rfl rfl rfl s.name) ?_|refine Ym (J26 F (c.mems.length:Int) s.code (by omega) (i:=9) (Je rfl) rfl) ?_|refine Zd ?_|refine Zf ?_|refine Zi ?_|refine Zm ?_|refine Zo ?_|refine Jd ?_|refine Zp ?_|refine Zq ?_|refine J4 ?_|refine J7 ?_|refine J3 ?_|refine J6 ?_
    exact⟨(q+1,J,m,W),nx (by omega) i3 i4' (fun h=>by omega) i6,by(try simp only);omega,JC [(15,15)] rfl rfl rfl ⟨⟨rfl,rfl⟩,⟨rfl,rfl⟩,⟨rfl,rfl⟩,⟨rfl,rfl⟩,⟨rfl,rfl⟩,⟨rfl,rfl⟩,⟨rfl,rfl⟩,⟨rfl,rfl⟩,⟨rfl,rfl⟩,⟨rfl,rfl⟩,⟨rfl,rfl⟩,⟨rfl,rfl⟩,⟨rfl,rfl⟩,⟨rfl,rfl⟩,⟨rfl,rfl⟩,⟨rfl,rfl⟩,⟨rfl,rfl⟩,trivial⟩ ⟨⟨rfl,rfl⟩,⟨rfl,rfl⟩,⟨rfl,rfl⟩,⟨by first|exact JB _ (fun _=>rfl)|rfl,Jp (fun _=>rfl) _⟩,⟨Jn rfl (by first|exact Jq _ _ _|rfl),Je rfl,Jl _ _ _⟩,⟨Jn rfl (by first|exact Jq _ _ _|rfl),Je rfl,Jl _ _ _⟩,⟨rfl,rfl⟩,⟨by first|exact JB _ (fun _=>rfl)|rfl,Jp (fun _=>rfl) _⟩,⟨rfl,rfl⟩,⟨by first|exact JB _ (fun _=>rfl)|rfl,Jp (fun _=>rfl) _⟩,⟨rfl,rfl⟩,⟨Jn rfl (by first|exact Jq _ _ _|rfl),Je rfl,Jl _ _ _⟩,trivial⟩⟩
 have q1:decide (s.kind=1)=false:=J1 k1
 rw[if_neg k1]at i6
 by_cases k2:s.kind=2
 ·have q2:decide (s.kind=2)=true:=J0 k2
  rw[if_pos k2]at i6
  by_cases h1:s.pos<0
  ·have n1:decide (s.pos<0)=true:=J0 h1
   rw[if_neg (fun h=>by omega)]at i6
   repeat' first|refine Z1 ?_|refine Z2 ?_|refine Z5 ?_|refine Z9 ?_|refine Zl ?_|refine Zo ?_|refine Zp ?_|refine Zq ?_|refine J4 ?_|refine J9 ?_|refine J8 ?_|refine Ja ?_
   exact hret i6 _ _ rfl rfl
  have n1:decide (s.pos<0)=false:=J1 h1
  by_cases h2:(c.mems.length:Int)≤s.pos
  ·have n2:decide ((c.mems.length:Int)≤s.pos)=true:=J0 h2
   rw[if_neg (fun h=>by omega)]at i6
   repeat' first|refine Z1 ?_|refine Z2 ?_|refine Z5 ?_|refine Z7 ?_|refine Z9 ?_|refine Zd ?_|refine Zh ?_|refine Zi ?_|refine Zl ?_|refine Zm ?_|refine Zo ?_|refine Zp ?_|refine Zq ?_|refine J4 ?_|refine J9 ?_|refine J8 ?_|refine Ja ?_
   exact hret i6 _ _ rfl rfl
  have n2:decide ((c.mems.length:Int)≤s.pos)=false:=J1 h2
  cases hc:codeI F (c.mems.length:Int) s.code with
  |false=>
   have n3:(!codeI F (c.mems.length:Int) s.code)=true:=by rw[hc];rfl
   rw[if_neg (by rw[hc];simp)]at i6
   repeat' first|refine Z1 ?_|refine Z2 ?_|refine Z5 ?_|refine Z7 ?_|refine Ym (J26 F (c.mems.length:Int) s.code (by omega) (i:=9) (Je rfl) rfl) ?_|refine Zd ?_|refine Zh ?_|refine Zi ?_|refine Zm ?_|refine Zo ?_|refine Zp ?_|refine Zq ?_|refine J4 ?_|refine J9 ?_|refine J8 ?_|refine Ja ?_
   exact hret i6 _ _ rfl rfl
  |true=>
   have n3:(!codeI F (c.mems.length:Int) s.code)=false:=by rw[hc];rfl
   rw[if_pos ⟨by omega,by omega,hc⟩]at i6
   repeat' first|refine Z1 ?_|refine Z2 ?_|refine Z5 ?_|refine Z7 ?_|refine Ym (J26 F (c.mems.length:Int) s.code (by omega) (i:=9) (Je rfl) rfl) ?_|refine Zd ?_|refine Zf ?_|refine Zh ?_|refine Zi ?_|refine Zm ?_|refine Zo ?_|refine Jd ?_|refine Zp ?_|refine Zq ?_|refine J4 ?_|refine J7 ?_|refine J3 ?_|refine J6 ?_
   exact⟨(q+1,J,m,W),nx (by omega) i3 i4' (fun h=>by omega) i6,by(try simp only);omega,JC [(15,15)] rfl rfl rfl ⟨⟨rfl,rfl⟩,⟨rfl,rfl⟩,⟨rfl,rfl⟩,⟨rfl,rfl⟩,⟨rfl,rfl⟩,⟨rfl,rfl⟩,⟨rfl,rfl⟩,⟨rfl,rfl⟩,⟨rfl,rfl⟩,⟨rfl,rfl⟩,⟨rfl,rfl⟩,⟨rfl,rfl⟩,⟨rfl,rfl⟩,⟨rfl,rfl⟩,⟨rfl,rfl⟩,⟨rfl,rfl⟩,⟨rfl,rfl⟩,trivial⟩ ⟨⟨rfl,rfl⟩,⟨rfl,rfl⟩,⟨rfl,rfl⟩,⟨by first|exact JB _ (fun _=>rfl)|rfl,Jp (fun _=>rfl) _⟩,⟨Jn rfl (by first|exact Jq _ _ _|rfl),Je rfl,Jl _ _ _⟩,⟨Jn rfl (by first|exact Jq _ _ _|rfl),Je rfl,Jl _ _ _⟩,⟨rfl,rfl⟩,⟨by first|exact JB _ (fun _=>rfl)|rfl,Jp (fun _=>rfl) _⟩,⟨rfl,rfl⟩,⟨by first|exact JB _ (fun _=>rfl)|rfl,Jp (fun _=>rfl) _⟩,⟨rfl,rfl⟩,⟨Jn rfl (by first|exact Jq _ _ _|rfl),Je rfl,Jl _ _ _⟩,trivial⟩⟩
 have q2:decide (s.kind=2)=false:=J1 k2
 rw[if_neg k2]at i6
 by_cases k3:s.kind=3
 ·have q3:decide (s.kind=3)=true:=J0 k3
  rw[if_pos k3]at i6
  by_cases h1:s.pos<0
  ·have n1:decide (s.pos<0)=true:=J0 h1
   rw[if_neg (fun h=>by omega)]at i6
   repeat' first|refine Z1 ?_|refine Z2 ?_|refine Z5 ?_|refine Z9 ?_|refine Zl ?_|refine Zo ?_|refine J5 ?_|refine Zp ?_|refine Zq ?_|refine J4 ?_|refine J9 ?_|refine J8 ?_|refine Ja ?_
   exact hret i6 _ _ rfl rfl
  have n1:decide (s.pos<0)=false:=J1 h1
  by_cases h2:(c.insts.length:Int)≤s.pos
  ·have n2:decide ((c.insts.length:Int)≤s.pos)=true:=J0 h2
   rw[if_neg (fun h=>by omega)]at i6
   repeat' first|refine Z1 ?_|refine Z2 ?_|refine Z5 ?_|refine Z7 ?_|refine Zd ?_|refine Zh ?_|refine Zi ?_|refine Zm ?_|refine Zo ?_|refine J5 ?_|refine Zp ?_|refine Zq ?_|refine J4 ?_|refine J9 ?_|refine J8 ?_|refine Ja ?_
   exact hret i6 _ _ rfl rfl
  have n2:decide ((c.insts.length:Int)≤s.pos)=false:=J1 h2
  rw[if_pos ⟨by omega,by omega⟩]at i6
  have hkd:s.kind=3→0≤s.pos∧s.pos<(c.insts.length:Int):=fun _=>⟨by omega,by omega⟩
  obtain⟨p,hp⟩:∃p:Nat,s.pos=(p:Int):=⟨s.pos.toNat,by omega⟩
  obtain⟨g,hg⟩:∃g,c.insts[p]? = some g:=⟨c.insts[p]'(by omega),List.getElem?_eq_getElem (by omega)⟩
  obtain⟨g0,g1⟩:=hin g (List.mem_of_getElem? hg)
  obtain⟨gn,hgn⟩:∃gn:Nat,g=(gn:Int):=⟨g.toNat,by omega⟩
  obtain⟨d,hd2⟩:∃d,cs[gn]? = some d:=⟨cs[gn]'(by omega),List.getElem?_eq_getElem (by omega)⟩
  rw[hp,Int.toNat_natCast,hg,Option.bind_some,hgn,Int.toNat_natCast,hd2]at i6
  dsimp only at i6
  repeat' first|refine Z1 ?_|refine Z2 ?_|refine Z5 ?_|refine Z7 ?_|refine Zd ?_|refine Zh ?_|refine Zi ?_|refine Zm ?_|refine Zo ?_|refine J5 ?_|refine Zp ?_|refine Zq ?_|refine J4 ?_|refine J7 ?_|refine J3 ?_
  refine J09 (fun j=>j=0∨j=8∨j=16) [10,11] Jr (by decide +kernel) ?_
  repeat' first|refine Wl (i:=0) rfl (.inl rfl) ?_|refine Wl (i:=8) rfl (.inr (.inl rfl)) ?_|refine Wl (i:=16) rfl (.inr (.inr rfl)) ?_|refine Wa ?_
  refine Wq (fun σ' _=>Ze (k:=p) ⟨rfl,rfl⟩ rfl (congrArg vi hp) hg) ?_
  refine Wa ?_
  refine Wq (fun σ' _=>Ze (k:=gn) ⟨rfl,rfl⟩ rfl (congrArg vi hgn) hd2) ?_
  refine Wa ?_
  refine We (Yu (i:=17) ⟨rfl,rfl⟩) (.inr (fun j hj=>by rw[St.obj_alloc,if_neg (by show ¬j=17;omega)])) ?_
  refine We (Yt (i:=17) (m:=(eCls d).map .d) rfl ⟨rfl,rfl⟩) (.inl rfl) ?_
  refine Wx ?_
  by_cases ho:s.outs.length=d.outs.length
  ·have n3:decide ((s.outs.length:Int)≠(d.outs.length:Int))=false:=J1 (fun h=>h (by omega))
   by_cases hi:s.args.length=d.ins.length
   ·have n4:decide ((s.args.length:Int)≠(d.ins.length:Int))=false:=J1 (fun h=>h (by omega))
    repeat' first|refine Z1 ?_|refine Z2 ?_|refine Z5 ?_|refine Z7 ?_|refine Yd (kk:=.string) ?_|refine Zd ?_|refine Zh ?_|refine Zi ?_|refine Zm ?_|refine Zo ?_|refine J5 ?_|refine Zq ?_|refine J4 ?_|refine J7 ?_|refine J3 ?_
    refine Jo (ι:=Nat×List (ByteArray×Bool)) (fun x_=>envL [(1,.ref 0 0),(4,.ref 2 0),(5,.mp 3),(52,.d (.im (cs.map eCls))),(53,vi cs.length),(54,vi k),(6,vi k),(7,.ref 8 0),(8,.ref 10 0),(9,.fn 115 [.ref 10 0]),(16,vi n),(22,.ref 13 0),(23,.fn 116 [.ref 10 0,.ref 13 0]),(198,.d (.im (c.body.map eSm))),(199,vi c.body.length),(200,vi q),(21,.sl 14 15 0 m),(25,.ref 16 0),(27,.mp 18),(359,.d (.im (s.outs.map eStr))),(360,vi s.outs.length),(361,vi x_.1)]) (fun x_=>stL [some (.var [.d (.im (cs.map eCls))]),some (.var [.sl 4 6 0 Z.length,.sl 5 7 0 B.length]),some (.var [.ref 1 0]),some (.map .string (smap vb N)),some (.row 6 3 1 (im2 eNum Z)),some (.row 7 3 1 (im2 eNum B)),none,none,some (.var ((eCls c).map .d)),some (.map .string (smap vi F)),some (.var [.mp 9]),none,some (.map .string (smap vi W)),some (.var [.mp 12]),some (.row 15 9 1 (im2 eStr J)),none,some (.var ((eSm s).map .d)),none,some (.map .string (smap vb x_.2))]) (fun x_=>x_.1≤s.outs.length∧outsGo F W x_.2 (s.outs.drop x_.1)=outsGo F W [] s.outs) (fun x_=>s.outs.length-x_.1) (0,[]) (⟨Nat.zero_le _,rfl⟩) (Jg rfl ⟨.refl _,.refl _,.refl _,.refl _,.refl _,.refl _,.refl _,.refl _,.refl _,.refl _,.refl _,.refl _,.refl _,.refl _,.refl _,.refl _,.refl _,.refl _,.refl _,.refl _,.refl _,.refl _,trivial⟩ ⟨⟨rfl,_,rfl,rfl,fun _ _ _=>.refl _⟩,⟨rfl,_,rfl,rfl,fun _ _ _=>.refl _⟩,⟨rfl,_,rfl,rfl,fun _ _ _=>.refl _⟩,⟨rfl,_,rfl,rfl,rfl⟩,⟨rfl,_,rfl,rfl,rfl,rfl,rfl⟩,⟨rfl,_,rfl,rfl,rfl,rfl,rfl⟩,⟨rfl,_,rfl,rfl,fun _ _ _=>.refl _⟩,⟨rfl,_,rfl,rfl,rfl⟩,⟨rfl,_,rfl,rfl,fun _ _ _=>.refl _⟩,⟨rfl,_,rfl,rfl,rfl⟩,⟨rfl,_,rfl,rfl,fun _ _ _=>.refl _⟩,⟨rfl,_,rfl,rfl,rfl,rfl,rfl⟩,⟨rfl,_,rfl,rfl,fun _ _ _=>.refl _⟩,⟨rfl,_,rfl,rfl,rfl⟩,trivial⟩) (fun _=>Nat.le_refl 19) ?_
    rintro⟨y,E⟩ ⟨l1,l2⟩
    simp only at l1 l2
    by_cases hyl:y<s.outs.length
    ·obtain⟨x,hy⟩:∃x,s.outs[y]? = some x:=⟨s.outs[y],List.getElem?_eq_getElem hyl⟩
     obtain⟨hd3,hlt3⟩:=Jc hy
     have ey:decide ((y:Int)<(s.outs.length:Int))=true:=J0 (by omega)
     rw[hd3]at l2
     simp only[outsGo]at l2
     cases hv:givenI F W x with
     |false=>
      have n5:(!givenI F W x)=true:=by rw[hv];rfl
      rw[if_neg (by rw[hv];simp)]at l2
      rw[if_neg (fun h=>by rw[←l2]at h;simp at h)]at i6
      repeat' first|refine Z1 ?_|refine Z2 ?_|refine Z5 ?_|refine Z9 ?_|refine Yp (J1y (F:=F) (W:=W) (i:=10) (j:=9) (i':=13) (j':=12) rfl rfl rfl rfl x) ?_|refine Ze ?_|refine Zl ?_|refine Zo ?_|refine J5 ?_|refine Zp ?_|refine J4 ?_|refine J7 ?_|refine J9 ?_|refine J3 ?_|refine J8 ?_|refine Ja ?_
      exact hret i6 _ _ rfl rfl
     |true=>
      have n5:(!givenI F W x)=false:=by rw[hv];rfl
      cases he:(sfind E x).getD false with
      |true=>
       rw[if_neg (by rw[he];simp)]at l2
       rw[if_neg (fun h=>by rw[←l2]at h;simp at h)]at i6
       repeat' first|refine Z1 ?_|refine Z2 ?_|refine Z5 ?_|refine Z7 ?_|refine Yp (J1y (F:=F) (W:=W) (i:=10) (j:=9) (i':=13) (j':=12) rfl rfl rfl rfl x) ?_|refine Yb (e:=vb) ?_|refine Ze ?_|refine Zi ?_|refine Zm ?_|refine Zo ?_|refine J5 ?_|refine Zp ?_|refine J4 ?_|refine J7 ?_|refine J9 ?_|refine J3 ?_|refine J8 ?_|refine Ja ?_
       exact hret i6 _ _ rfl rfl
      |false=>
       rw[if_pos ⟨hv,he⟩]at l2
       repeat' first|refine Z1 ?_|refine Z2 ?_|refine Z3 ?_|refine Z5 ?_|refine Z7 ?_|refine Yp (J1y (F:=F) (W:=W) (i:=10) (j:=9) (i':=13) (j':=12) rfl rfl rfl rfl x) ?_|refine Yb (e:=vb) ?_|refine Yc (e:=vb) (b:=true) ?_|refine Ze ?_|refine Zf ?_|refine Zi ?_|refine Zm ?_|refine Zo ?_|refine J5 ?_|refine Jd ?_|refine Zp ?_|refine Zq ?_|refine J4 ?_|refine J7 ?_|refine J3 ?_|refine J6 ?_
       exact⟨(y+1,sput E x true),⟨hlt3,l2⟩,by(try simp only);omega,Jh (Nat.le_of_ble_eq_true rfl) ⟨⟨rfl,rfl⟩,⟨rfl,rfl⟩,⟨rfl,rfl⟩,⟨rfl,rfl⟩,⟨rfl,rfl⟩,⟨rfl,rfl⟩,⟨rfl,rfl⟩,⟨rfl,rfl⟩,⟨rfl,rfl⟩,⟨rfl,rfl⟩,⟨rfl,rfl⟩,⟨rfl,rfl⟩,⟨rfl,rfl⟩,⟨rfl,rfl⟩,⟨rfl,rfl⟩,⟨rfl,rfl⟩,⟨rfl,rfl⟩,⟨rfl,rfl⟩,⟨rfl,rfl⟩,⟨rfl,rfl⟩,⟨rfl,rfl⟩,⟨rfl,rfl⟩,trivial⟩ ⟨⟨rfl,rfl⟩,⟨rfl,rfl⟩,⟨rfl,rfl⟩,⟨rfl,Jp (fun _=>rfl) _⟩,⟨rfl,Je rfl,Jl _ _ _⟩,⟨rfl,Je rfl,Jl _ _ _⟩,⟨rfl,rfl⟩,⟨rfl,Jp (fun _=>rfl) _⟩,⟨rfl,rfl⟩,⟨rfl,Jp (fun _=>rfl) _⟩,⟨rfl,rfl⟩,⟨rfl,Je rfl,Jl _ _ _⟩,⟨rfl,rfl⟩,⟨rfl,Jp (fun _=>rfl) _⟩,trivial⟩⟩
    have ey:decide ((y:Int)<(s.outs.length:Int))=false:=J1 (by omega)
    rw[List.drop_eq_nil_of_le (by omega)]at l2
    have l2:true=outsGo F W [] s.outs:=l2
    repeat' first|refine Z1 ?_|refine Z2 ?_|refine Z5 ?_|refine Zd ?_|refine Zo ?_|refine J5 ?_|refine Zq ?_|refine J4 ?_|refine Jf ?_|refine J3 ?_|refine Jb ?_|refine Zv ?_
    refine Jo (ι:=Nat) (fun x=>envL [(1,.ref 0 0),(4,.ref 2 0),(5,.mp 3),(52,.d (.im (cs.map eCls))),(53,vi cs.length),(54,vi k),(6,vi k),(7,.ref 8 0),(8,.ref 10 0),(9,.fn 115 [.ref 10 0]),(16,vi n),(22,.ref 13 0),(23,.fn 116 [.ref 10 0,.ref 13 0]),(198,.d (.im (c.body.map eSm))),(199,vi c.body.length),(200,vi q),(21,.sl 14 15 0 m),(25,.ref 16 0),(378,.d (.im (s.args.map eItms))),(379,vi s.args.length),(380,vi x)]) (fun x=>stL [some (.var [.d (.im (cs.map eCls))]),some (.var [.sl 4 6 0 Z.length,.sl 5 7 0 B.length]),some (.var [.ref 1 0]),some (.map .string (smap vb N)),some (.row 6 3 1 (im2 eNum Z)),some (.row 7 3 1 (im2 eNum B)),none,none,some (.var ((eCls c).map .d)),some (.map .string (smap vi F)),some (.var [.mp 9]),none,some (.map .string (smap vi W)),some (.var [.mp 12]),some (.row 15 9 1 (im2 eStr J)),none,some (.var ((eSm s).map .d)),none,none]) (fun x=>x≤s.args.length∧(s.args.drop x).all (codeI F (c.mems.length:Int))=s.args.all (codeI F (c.mems.length:Int))) (fun x=>s.args.length-x) 0 (⟨Nat.zero_le _,rfl⟩) (Jg rfl ⟨.refl _,.refl _,.refl _,.refl _,.refl _,.refl _,.refl _,.refl _,.refl _,.refl _,.refl _,.refl _,.refl _,.refl _,.refl _,.refl _,.refl _,.refl _,.refl _,.refl _,.refl _,trivial⟩ ⟨⟨rfl,_,rfl,rfl,fun _ _ _=>.refl _⟩,⟨rfl,_,rfl,rfl,fun _ _ _=>.refl _⟩,⟨rfl,_,rfl,rfl,fun _ _ _=>.refl _⟩,⟨rfl,_,rfl,rfl,rfl⟩,⟨rfl,_,rfl,rfl,rfl,rfl,rfl⟩,⟨rfl,_,rfl,rfl,rfl,rfl,rfl⟩,⟨rfl,_,rfl,rfl,fun _ _ _=>.refl _⟩,⟨rfl,_,rfl,rfl,rfl⟩,⟨rfl,_,rfl,rfl,fun _ _ _=>.refl _⟩,⟨rfl,_,rfl,rfl,rfl⟩,⟨rfl,_,rfl,rfl,fun _ _ _=>.refl _⟩,⟨rfl,_,rfl,rfl,rfl,rfl,rfl⟩,⟨rfl,_,rfl,rfl,fun _ _ _=>.refl _⟩,trivial⟩) (fun _=>Nat.le_refl 19) ?_
    rintro y2 ⟨o1,o2⟩
    by_cases hyl2:y2<s.args.length
    ·obtain⟨x,hy⟩:∃x,s.args[y2]? = some x:=⟨s.args[y2],List.getElem?_eq_getElem hyl2⟩
     obtain⟨hd3,hlt3⟩:=Jc hy
     have ey2:decide ((y2:Int)<(s.args.length:Int))=true:=J0 (by omega)
     have hxl:x.length≤1048576:=by
      have:=Jz (w:=wL wItm) (List.mem_of_getElem? hy)
      simp only[wL]at this hws
      omega
     rw[hd3,List.all_cons]at o2
     cases hc:codeI F (c.mems.length:Int) x with
     |false=>
      have n5:(!codeI F (c.mems.length:Int) x)=true:=by rw[hc];rfl
      rw[hc]at o2
      have o2:false=s.args.all (codeI F (c.mems.length:Int)):=o2
      rw[if_neg (fun h=>by rw[←o2]at h;simp at h)]at i6
      repeat' first|refine Z1 ?_|refine Z2 ?_|refine Z5 ?_|refine Ym (J26 F (c.mems.length:Int) x hxl (i:=9) (Je rfl) rfl) ?_|refine Zd ?_|refine Ze ?_|refine Zo ?_|refine J5 ?_|refine Zp ?_|refine J4 ?_|refine J7 ?_|refine J9 ?_|refine J3 ?_|refine J8 ?_|refine Ja ?_
      exact hret i6 _ _ rfl rfl
     |true=>
      have n5:(!codeI F (c.mems.length:Int) x)=false:=by rw[hc];rfl
      rw[hc,Bool.true_and]at o2
      repeat' first|refine Z1 ?_|refine Z2 ?_|refine Z5 ?_|refine Ym (J26 F (c.mems.length:Int) x hxl (i:=9) (Je rfl) rfl) ?_|refine Zd ?_|refine Ze ?_|refine Zf ?_|refine Zo ?_|refine J5 ?_|refine Jd ?_|refine Zp ?_|refine Zq ?_|refine J4 ?_|refine J7 ?_|refine J3 ?_|refine J6 ?_
      exact⟨y2+1,⟨hlt3,o2⟩,by(try simp only);omega,Jh (Nat.le_of_ble_eq_true rfl) ⟨⟨rfl,rfl⟩,⟨rfl,rfl⟩,⟨rfl,rfl⟩,⟨rfl,rfl⟩,⟨rfl,rfl⟩,⟨rfl,rfl⟩,⟨rfl,rfl⟩,⟨rfl,rfl⟩,⟨rfl,rfl⟩,⟨rfl,rfl⟩,⟨rfl,rfl⟩,⟨rfl,rfl⟩,⟨rfl,rfl⟩,⟨rfl,rfl⟩,⟨rfl,rfl⟩,⟨rfl,rfl⟩,⟨rfl,rfl⟩,⟨rfl,rfl⟩,⟨rfl,rfl⟩,⟨rfl,rfl⟩,⟨rfl,rfl⟩,trivial⟩ ⟨⟨rfl,rfl⟩,⟨rfl,rfl⟩,⟨rfl,rfl⟩,⟨rfl,Jp (fun _=>rfl) _⟩,⟨rfl,Je rfl,Jl _ _ _⟩,⟨rfl,Je rfl,Jl _ _ _⟩,⟨rfl,rfl⟩,⟨rfl,Jp (fun _=>rfl) _⟩,⟨rfl,rfl⟩,⟨rfl,Jp (fun _=>rfl) _⟩,⟨rfl,rfl⟩,⟨rfl,Je rfl,Jl _ _ _⟩,⟨rfl,rfl⟩,trivial⟩⟩
    have ey2:decide ((y2:Int)<(s.args.length:Int))=false:=J1 (by omega)
    rw[List.drop_eq_nil_of_le (by omega)]at o2
    have o2:true=s.args.all (codeI F (c.mems.length:Int)):=o2
    rw[if_pos ⟨ho,hi,l2.symm,o2.symm⟩]at i6
    repeat' first|refine Z1 ?_|refine Z2 ?_|refine Z5 ?_|refine Zf ?_|refine Zo ?_|refine J5 ?_|refine Jd ?_|refine Zq ?_|refine Jf ?_|refine J3 ?_|refine Jb ?_|refine Zv ?_|refine J6 ?_
    exact⟨(q+1,J,m,W),nx (by omega) i3 i4' hkd i6,by(try simp only);omega,JC [(15,15)] rfl rfl rfl ⟨⟨rfl,rfl⟩,⟨rfl,rfl⟩,⟨rfl,rfl⟩,⟨rfl,rfl⟩,⟨rfl,rfl⟩,⟨rfl,rfl⟩,⟨rfl,rfl⟩,⟨rfl,rfl⟩,⟨rfl,rfl⟩,⟨rfl,rfl⟩,⟨rfl,rfl⟩,⟨rfl,rfl⟩,⟨rfl,rfl⟩,⟨rfl,rfl⟩,⟨rfl,rfl⟩,⟨rfl,rfl⟩,⟨rfl,rfl⟩,trivial⟩ ⟨⟨rfl,rfl⟩,⟨rfl,rfl⟩,⟨rfl,rfl⟩,⟨by first|exact JB _ (fun _=>rfl)|rfl,Jp (fun _=>rfl) _⟩,⟨Jn rfl (by first|exact Jq _ _ _|rfl),Je rfl,Jl _ _ _⟩,⟨Jn rfl (by first|exact Jq _ _ _|rfl),Je rfl,Jl _ _ _⟩,⟨rfl,rfl⟩,⟨by first|exact JB _ (fun _=>rfl)|rfl,Jp (fun _=>rfl) _⟩,⟨rfl,rfl⟩,⟨by first|exact JB _ (fun _=>rfl)|rfl,Jp (fun _=>rfl) _⟩,⟨rfl,rfl⟩,⟨Jn rfl (by first|exact Jq _ _ _|rfl),Je rfl,Jl _ _ _⟩,trivial⟩⟩
   ·have n4:decide ((s.args.length:Int)≠(d.ins.length:Int))=true:=J0 (fun h=>hi (by omega))
    rw[if_neg (fun h=>hi h.2.1)]at i6
    repeat' first|refine Z1 ?_|refine Z2 ?_|refine Z5 ?_|refine Z7 ?_|refine Zd ?_|refine Zh ?_|refine Zi ?_|refine Zm ?_|refine Zo ?_|refine J5 ?_|refine Zp ?_|refine J9 ?_|refine J8 ?_|refine Ja ?_
    exact hret i6 _ _ rfl rfl
  ·have n3:decide ((s.outs.length:Int)≠(d.outs.length:Int))=true:=J0 (fun h=>ho (by omega))
   rw[if_neg (fun h=>ho h.1)]at i6
   repeat' first|refine Z1 ?_|refine Z2 ?_|refine Z5 ?_|refine Z9 ?_|refine Zd ?_|refine Zl ?_|refine Zo ?_|refine J5 ?_|refine Zp ?_|refine J9 ?_|refine J8 ?_|refine Ja ?_
   exact hret i6 _ _ rfl rfl
 have q3:decide (s.kind=3)=false:=J1 k3
 rw[if_neg k3]at i6
 by_cases k4:s.kind=4
 ·have q4:decide (s.kind=4)=true:=J0 k4
  rw[if_pos k4]at i6
  cases hf:(sfind F s.name).isSome with
  |false=>
   have n1:(!(sfind F s.name).isSome)=true:=by rw[hf];rfl
   rw[if_neg (by rw[hf];simp)]at i6
   repeat' first|refine Z1 ?_|refine Z2 ?_|refine Z5 ?_|refine Ya (e:=vi) ?_|refine Zo ?_|refine J5 ?_|refine Zp ?_|refine Zq ?_|refine J4 ?_|refine J9 ?_|refine J8 ?_|refine Ja ?_
   exact hret i6 _ _ rfl rfl
  |true=>
   have n1:(!(sfind F s.name).isSome)=false:=by rw[hf];rfl
   rw[if_pos hf]at i6
   have hw1:=i4 s.name
   have hw2:=hw1
   unfold wget at hw2
   repeat' first|refine Z1 ?_|refine Z2 ?_|refine Z3 ?_|refine Z4 ?_|refine Z5 ?_|refine Ya (e:=vi) ?_|refine Yb (e:=vi) ?_|refine Yc (e:=vi) (b:=wget W s.name+1) ?_|refine Yl2 (e:=eStr) (J:=J) [s.name] i3 ?_|refine Zf ?_|refine Zo ?_|refine J5 ?_|refine Jd ?_|refine Zp ?_|refine Zq ?_|refine J4 ?_|refine J7 ?_|refine J3 ?_|refine J6 ?_
   exact⟨(q+1,J.take m++[s.name],m+1,sput W s.name (wget W s.name+1)),nx (by omega) (by simp only[List.length_append,hSl,List.length_singleton];omega) (J81 i4 (by omega)) (fun h=>by omega) (by rw[List.take_of_length_le (by simp only[List.length_append,hSl,List.length_singleton];omega)];exact i6),by(try simp only);omega,JC [(15,18)] rfl rfl rfl ⟨⟨rfl,rfl⟩,⟨rfl,rfl⟩,⟨rfl,rfl⟩,⟨rfl,rfl⟩,⟨rfl,rfl⟩,⟨rfl,rfl⟩,⟨rfl,rfl⟩,⟨rfl,rfl⟩,⟨rfl,rfl⟩,⟨rfl,rfl⟩,⟨rfl,rfl⟩,⟨rfl,rfl⟩,⟨rfl,rfl⟩,⟨rfl,rfl⟩,⟨rfl,rfl⟩,⟨rfl,rfl⟩,⟨rfl,rfl⟩,trivial⟩ ⟨⟨rfl,rfl⟩,⟨rfl,rfl⟩,⟨rfl,rfl⟩,⟨by first|exact JB _ (fun _=>rfl)|rfl,Jp (fun _=>rfl) _⟩,⟨Jn rfl (by first|exact Jq _ _ _|rfl),Je rfl,Jl _ _ _⟩,⟨Jn rfl (by first|exact Jq _ _ _|rfl),Je rfl,Jl _ _ _⟩,⟨rfl,rfl⟩,⟨by first|exact JB _ (fun _=>rfl)|rfl,Jp (fun _=>rfl) _⟩,⟨rfl,rfl⟩,⟨by first|exact JB _ (fun _=>rfl)|rfl,Jp (fun _=>rfl) _⟩,⟨rfl,rfl⟩,⟨Jn rfl (by first|exact Jq _ _ _|rfl),Je rfl,Jl _ _ _⟩,trivial⟩⟩
 have q4:decide (s.kind=4)=false:=J1 k4
 rw[if_neg k4]at i6
 by_cases k5:s.kind=5
 ·have q5:decide (s.kind=5)=true:=J0 k5
  rw[if_pos k5]at i6
  repeat' first|refine Z1 ?_|refine Z2 ?_|refine Z5 ?_|refine Zf ?_|refine Zo ?_|refine Jd ?_|refine Zp ?_|refine Zq ?_|refine J4 ?_|refine J7 ?_|refine J3 ?_|refine J6 ?_
  exact⟨(q+1,J,m,W),nx (by omega) i3 i4' (fun h=>by omega) i6,by(try simp only);omega,JC [(15,15)] rfl rfl rfl ⟨⟨rfl,rfl⟩,⟨rfl,rfl⟩,⟨rfl,rfl⟩,⟨rfl,rfl⟩,⟨rfl,rfl⟩,⟨rfl,rfl⟩,⟨rfl,rfl⟩,⟨rfl,rfl⟩,⟨rfl,rfl⟩,⟨rfl,rfl⟩,⟨rfl,rfl⟩,⟨rfl,rfl⟩,⟨rfl,rfl⟩,⟨rfl,rfl⟩,⟨rfl,rfl⟩,⟨rfl,rfl⟩,⟨rfl,rfl⟩,trivial⟩ ⟨⟨rfl,rfl⟩,⟨rfl,rfl⟩,⟨rfl,rfl⟩,⟨by first|exact JB _ (fun _=>rfl)|rfl,Jp (fun _=>rfl) _⟩,⟨Jn rfl (by first|exact Jq _ _ _|rfl),Je rfl,Jl _ _ _⟩,⟨Jn rfl (by first|exact Jq _ _ _|rfl),Je rfl,Jl _ _ _⟩,⟨rfl,rfl⟩,⟨by first|exact JB _ (fun _=>rfl)|rfl,Jp (fun _=>rfl) _⟩,⟨rfl,rfl⟩,⟨by first|exact JB _ (fun _=>rfl)|rfl,Jp (fun _=>rfl) _⟩,⟨rfl,rfl⟩,⟨Jn rfl (by first|exact Jq _ _ _|rfl),Je rfl,Jl _ _ _⟩,trivial⟩⟩
 have q5:decide (s.kind=5)=false:=J1 k5
 rw[if_neg k5]at i6
 by_cases k6:s.kind=6
 ·have q6:decide (s.kind=6)=true:=J0 k6
  rw[if_pos k6]at i6
  by_cases hm0:m=0
  ·subst hm0
   have n1:decide (((0-0:Nat):Int)=0)=true:=rfl
   rw[List.take_zero]at i6
   repeat' first|refine Z1 ?_|refine Z2 ?_|refine Zo ?_|refine J5 ?_|refine Zp ?_|refine Zq ?_|refine J4 ?_|refine J9 ?_|refine J8 ?_|refine Ja ?_
   exact hret i6 _ _ rfl rfl
  have n1:decide (((m-0:Nat):Int)=0)=false:=J1 (by omega)
  obtain⟨x,hx1⟩:∃x,J[m-1]? = some x:=⟨J[m-1],List.getElem?_eq_getElem (by omega)⟩
  have hgl:(J.take m).getLast? = some x:=by rw[List.getLast?_eq_getElem?,hSl,List.getElem?_take,if_pos (by omega)];exact hx1
  have hdl:(J.take m).dropLast=J.take (m-1):=by rw[List.dropLast_eq_take,hSl,List.take_take,Nat.min_eq_left (by omega)]
  rw[hgl]at i6
  dsimp only at i6
  rw[hdl]at i6
  have hw1:=i4 x
  have hw2:=hw1
  unfold wget at hw2
  have hr:(im2 eStr J)[m-1]? = some [vs x]:=J2E hx1
  repeat' first|refine Z1 ?_|refine Z2 ?_|refine Zo ?_|refine J5 ?_|refine Zp ?_|refine Zq ?_|refine J4 ?_|refine J7 ?_|refine J3 ?_
  refine J09 (fun j=>j=12∨j=13∨j=14) [9] Jr (by decide +kernel) ?_
  repeat' first|refine Wl (i:=13) rfl (.inr (.inl rfl)) ?_|refine Wa ?_
  refine Wq (fun σ' _=>Zg ⟨rfl,rfl⟩) ?_
  refine Wq (fun σ' h=>Yi1 (n:=((m-0:Nat):Int)-1) (hi:=m) (m-1) (h 14 (.inr (.inr rfl))) (by omega) (by omega) ⟨rfl,rfl⟩) ?_
  refine Wq (fun σ' h=>Ye1 (h 14 (.inr (.inr rfl))) hr ⟨rfl,rfl⟩) ?_
  refine Wq (fun σ' h=>Yb (e:=vi) (F:=W) (s:=x) (i:=12) (ho:=h 12 (.inl rfl)) ⟨rfl,rfl⟩) ?_
  refine Wq (fun σ' _=>Zg ⟨rfl,rfl⟩) ?_
  refine We (Yc (e:=vi) (b:=wget W x-1) (F:=W) (s:=x) (i:=12) ⟨rfl,rfl⟩) (.inl rfl) ?_
  first|refine Wx ?_|refine Wy ?_
  repeat' first|refine Z1 ?_|refine Z2 ?_|refine Z3 ?_|refine Z5 ?_|refine Yz (n:=((m-0:Nat):Int)-1) (hi:=m) (m-1) (i:=14) rfl (by omega) (by omega) ?_|refine Zf ?_|refine Zg ?_|refine Jd ?_|refine J3 ?_|refine J6 ?_
  exact⟨(q+1,J,m-1,sput W x (wget W x-1)),nx (by omega) (by omega) (J81 i4 (by omega)) (fun h=>by omega) i6,by(try simp only);omega,JC [(15,15)] rfl rfl rfl ⟨⟨rfl,rfl⟩,⟨rfl,rfl⟩,⟨rfl,rfl⟩,⟨rfl,rfl⟩,⟨rfl,rfl⟩,⟨rfl,rfl⟩,⟨rfl,rfl⟩,⟨rfl,rfl⟩,⟨rfl,rfl⟩,⟨rfl,rfl⟩,⟨rfl,rfl⟩,⟨rfl,rfl⟩,⟨rfl,rfl⟩,⟨rfl,rfl⟩,⟨rfl,rfl⟩,⟨rfl,rfl⟩,⟨rfl,rfl⟩,trivial⟩ ⟨⟨rfl,rfl⟩,⟨rfl,rfl⟩,⟨rfl,rfl⟩,⟨by first|exact JB _ (fun _=>rfl)|rfl,Jp (fun _=>rfl) _⟩,⟨Jn rfl (by first|exact Jq _ _ _|rfl),Je rfl,Jl _ _ _⟩,⟨Jn rfl (by first|exact Jq _ _ _|rfl),Je rfl,Jl _ _ _⟩,⟨rfl,rfl⟩,⟨by first|exact JB _ (fun _=>rfl)|rfl,Jp (fun _=>rfl) _⟩,⟨rfl,rfl⟩,⟨by first|exact JB _ (fun _=>rfl)|rfl,Jp (fun _=>rfl) _⟩,⟨rfl,rfl⟩,⟨Jn rfl (by first|exact Jq _ _ _|rfl),Je rfl,Jl _ _ _⟩,trivial⟩⟩
 have q6:decide (s.kind=6)=false:=J1 k6
 rw[if_neg k6]at i6
 repeat' first|refine Z1 ?_|refine Z2 ?_|refine Zo ?_|refine Zq ?_|refine J4 ?_|refine J9 ?_|refine J8 ?_|refine Ja ?_
 exact hret i6 _ _ rfl rfl
end Go.Pm
