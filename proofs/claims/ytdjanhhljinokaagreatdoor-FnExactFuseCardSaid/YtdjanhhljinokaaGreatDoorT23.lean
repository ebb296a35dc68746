/- Part of the proof: Ms5. -/
import Derived.Test.YtdjanhhljinokaaGreatDoorT22
import Derived.Test.YtdjanhhljinokaaGreatDoorT15
import Derived.Test.YtdjanhhljinokaaGreatDoorT19
import Derived.Test.YtdjanhhljinokaaGreatDoorT21
set_option linter.unusedVariables false
set_option linter.unusedSimpArgs false
namespace Go.Pm
attribute [local irreducible] AR Ok inBlock andThen endQ aoper
set_option maxHeartbeats 2000000
open Go.Proofs
def c0 (s:Sm):Bool:=decide (s.kind=1)||decide (s.kind=4)
def c1 (s:Sm):Bool:=!(c0 s)&&decide (s.name≠⟨#[]⟩)
def c2 (s:Sm):Bool:=decide (s.kind≠2)&&decide (s.kind≠3)&&decide (s.pos≠0)
def c3 (s:Sm):Bool:=decide (s.kind≠3)&&(decide ((s.outs.length:Int)≠0)||decide ((s.args.length:Int)≠0))
def c4 (s:Sm):Bool:=decide (s.kind≠1)&&decide (s.kind≠2)&&decide ((s.code.length:Int)≠0)
def outsS (c:Cls) (outs:List ByteArray):Nat→List ByteArray→Bool
 |_,[]=>true
 |i,x::l=>if setS c x=false∨placeS x 0 outs<(i:Int)then false else outsS c outs (i+1) l
def stmS (cs:List Cls) (c:Cls) (s:Sm):Bool:=
 if c1 s=true then false else if c2 s=true then false else if c3 s=true then false else if c4 s=true then false
 else if s.kind=1 then setS c s.name&&mcodeS c s.code
 else if s.kind=2 then decide (0≤s.pos)&&decide (s.pos<(c.mems.length:Int))&&mcodeS c s.code
 else if s.kind=4 then inS (nmsC c) s.name
 else if s.kind=5∨s.kind=6 then true
 else if s.kind=3 then
  (if s.pos<0∨(c.insts.length:Int)≤s.pos then false else
   match (c.insts[s.pos.toNat]?).bind (fun g=>cs[g.toNat]?)with
   |none=>false
   |some d=>if s.outs.length=d.outs.length∧s.args.length=d.ins.length then outsS c s.outs 0 s.outs&&s.args.all (mcodeS c)else false)
 else false
theorem bq {a b:Bool} (h:b=a):Frz none (vb a) (vb b):=by rw[h];exact .refl _
theorem Jap (cs:List Cls) (k:Nat) (c:Cls) (s:Sm) (hc:cs.length≤1048576) (hw:wCls c≤1048576) (hs:wSm s≤1048576) (hk:k<cs.length) (hin:∀g∈c.insts,0≤g∧g<(k:Int)):PFun X 129 [.agg [.d (.im (cs.map eCls))],.agg ((eCls c).map .d),.agg ((eSm s).map .d)] (vb (stmS cs c s)):=by
 have hnl:=J6k hw
 have hcl:=J1G hw
 have hsl:s.code.length≤1048576∧s.outs.length≤1048576∧s.args.length≤1048576:=by simp only[wSm,wL]at hs;omega
 refine Jj Tryz.func129 rfl (by decide) Tryz.ntmps129 Tryz.results129 (by simp) rfl rfl ?_
 refine Zo ?_
 repeat' first|refine Z1 ?_|refine Z2 ?_
 refine J1H (envL [(7,vb (c0 s)),(3,.ref 0 0),(4,.ref 1 0),(5,.ref 2 0)]) (stL [some (.var [.d (.im (cs.map eCls))]),some (.var ((eCls c).map .d)),some (.var ((eSm s).map .d))]) ?_ ?_
 ·
  repeat' first|refine Z1 ?_|refine Z3 ?_|refine Z5 ?_|refine Z7 ?_|refine Z9 ?_|refine Zb (fun hc=>?_) (fun hc=>?_)|refine Zh ?_|refine Zi ?_|refine Zl ?_|refine Zm ?_|refine Jd ?_
  all_goals exact⟨rfl,Jg rfl ⟨bq (by simp only[c0, *];try rfl),.refl _,.refl _,.refl _,trivial⟩ ⟨⟨rfl,_,rfl,rfl,fun _ _ _=>.refl _⟩,⟨rfl,_,rfl,rfl,fun _ _ _=>.refl _⟩,⟨rfl,_,rfl,rfl,fun _ _ _=>.refl _⟩,trivial⟩⟩
 refine J5 ?_
 refine J1H (envL [(27,vb (c1 s)),(3,.ref 0 0),(4,.ref 1 0),(5,.ref 2 0)]) (stL [some (.var [.d (.im (cs.map eCls))]),some (.var ((eCls c).map .d)),some (.var ((eSm s).map .d))]) ?_ ?_
 ·
  repeat' first|refine Z1 ?_|refine Z3 ?_|refine Z5 ?_|refine Z7 ?_|refine Z8 ?_|refine Za (fun hc=>?_) (fun hc=>?_)|refine Zh ?_|refine Zi ?_|refine Zl ?_|refine Zm ?_|refine Jd ?_
  all_goals exact⟨rfl,Jg rfl ⟨bq (by simp only[c1, *];try rfl),.refl _,.refl _,.refl _,trivial⟩ ⟨⟨rfl,_,rfl,rfl,fun _ _ _=>.refl _⟩,⟨rfl,_,rfl,rfl,fun _ _ _=>.refl _⟩,⟨rfl,_,rfl,rfl,fun _ _ _=>.refl _⟩,trivial⟩⟩
 have hm:stmS cs c s=stmS cs c s:=rfl
 conv at hm=>rhs;unfold stmS
 cases h1:c1 s with
 |true=>
  rw[if_pos h1]at hm
  repeat' first|refine Z1 ?_|refine Z2 ?_|refine Zo ?_|refine Zp ?_|refine J9 ?_|refine J8 ?_|refine Zt ?_
  exact Ji hm.symm
 |false=>
 rw[if_neg (by rw[h1];simp)]at hm
 refine Zq ?_
 refine J7 ?_
 refine J3 ?_
 refine J5 ?_
 refine J1H (envL [(40,vb (c2 s)),(3,.ref 0 0),(4,.ref 1 0),(5,.ref 2 0)]) (stL [some (.var [.d (.im (cs.map eCls))]),some (.var ((eCls c).map .d)),some (.var ((eSm s).map .d))]) ?_ ?_
 ·
  repeat' first|refine Z1 ?_|refine Z3 ?_|refine Z5 ?_|refine Z7 ?_|refine Z8 ?_|refine Za (fun hc=>?_) (fun hc=>?_)|refine Zh ?_|refine Zi ?_|refine Zl ?_|refine Zm ?_|refine Jd ?_
  all_goals exact⟨rfl,Jg rfl ⟨bq (by simp only[c2, *];try rfl),.refl _,.refl _,.refl _,trivial⟩ ⟨⟨rfl,_,rfl,rfl,fun _ _ _=>.refl _⟩,⟨rfl,_,rfl,rfl,fun _ _ _=>.refl _⟩,⟨rfl,_,rfl,rfl,fun _ _ _=>.refl _⟩,trivial⟩⟩
 cases h2:c2 s with
 |true=>
  rw[if_pos h2]at hm
  repeat' first|refine Z1 ?_|refine Z2 ?_|refine Zo ?_|refine Zp ?_|refine J9 ?_|refine J8 ?_|refine Zt ?_
  exact Ji hm.symm
 |false=>
 rw[if_neg (by rw[h2];simp)]at hm
 refine Zq ?_
 refine J7 ?_
 refine J3 ?_
 refine J5 ?_
 refine J1H (envL [(55,vb (c3 s)),(3,.ref 0 0),(4,.ref 1 0),(5,.ref 2 0)]) (stL [some (.var [.d (.im (cs.map eCls))]),some (.var ((eCls c).map .d)),some (.var ((eSm s).map .d))]) ?_ ?_
 ·
  repeat' first|refine Z1 ?_|refine Z3 ?_|refine Z5 ?_|refine Z6 ?_|refine Z7 ?_|refine Z8 ?_|refine Z9 ?_|refine Za (fun hc=>?_) (fun hc=>?_)|refine Zb (fun hc=>?_) (fun hc=>?_)|refine Zd ?_|refine Zh ?_|refine Zi ?_|refine Zl ?_|refine Zm ?_|refine Jd ?_
  all_goals exact⟨rfl,Jg rfl ⟨bq (by simp only[c3, *];try rfl),.refl _,.refl _,.refl _,trivial⟩ ⟨⟨rfl,_,rfl,rfl,fun _ _ _=>.refl _⟩,⟨rfl,_,rfl,rfl,fun _ _ _=>.refl _⟩,⟨rfl,_,rfl,rfl,fun _ _ _=>.refl _⟩,trivial⟩⟩
 cases h3:c3 s with
 |true=>
  rw[if_pos h3]at hm
  repeat' first|refine Z1 ?_|refine Z2 ?_|refine Zo ?_|refine Zp ?_|refine J9 ?_|refine J8 ?_|refine Zt ?_
  exact Ji hm.symm
 |false=>
 rw[if_neg (by rw[h3];simp)]at hm
 refine Zq ?_
 refine J7 ?_
 refine J3 ?_
 refine J5 ?_
 refine J1H (envL [(69,vb (c4 s)),(3,.ref 0 0),(4,.ref 1 0),(5,.ref 2 0)]) (stL [some (.var [.d (.im (cs.map eCls))]),some (.var ((eCls c).map .d)),some (.var ((eSm s).map .d))]) ?_ ?_
 ·
  repeat' first|refine Z1 ?_|refine Z3 ?_|refine Z5 ?_|refine Z7 ?_|refine Z8 ?_|refine Za (fun hc=>?_) (fun hc=>?_)|refine Zd ?_|refine Zh ?_|refine Zi ?_|refine Zl ?_|refine Zm ?_|refine Jd ?_
  all_goals exact⟨rfl,Jg rfl ⟨bq (by simp only[c4, *];try rfl),.refl _,.refl _,.refl _,trivial⟩ ⟨⟨rfl,_,rfl,rfl,fun _ _ _=>.refl _⟩,⟨rfl,_,rfl,rfl,fun _ _ _=>.refl _⟩,⟨rfl,_,rfl,rfl,fun _ _ _=>.refl _⟩,trivial⟩⟩
 cases h4:c4 s with
 |true=>
  rw[if_pos h4]at hm
  repeat' first|refine Z1 ?_|refine Z2 ?_|refine Zo ?_|refine Zp ?_|refine J9 ?_|refine J8 ?_|refine Zt ?_
  exact Ji hm.symm
 |false=>
 rw[if_neg (by rw[h4];simp)]at hm
 refine Zq ?_
 refine J7 ?_
 refine J3 ?_
 by_cases k1:s.kind=1
 ·have q1:decide (s.kind=1)=true:=J0 k1
  rw[if_pos k1]at hm
  cases hs1:setS c s.name with
  |false=>
   rw[hs1,Bool.false_and]at hm
   repeat' first|refine Z1 ?_|refine Z2 ?_|refine Z5 ?_|refine Z8 ?_|refine Zc (J2V c s.name hw) ?_|refine Zm ?_|refine Zo ?_|refine J5 ?_|refine Zp ?_|refine J4 ?_|refine J9 ?_|refine J8 ?_|refine Ja ?_|refine Zt ?_
   exact Ji hm.symm
  |true=>
   rw[hs1,Bool.true_and]at hm
   repeat' first|refine Z1 ?_|refine Z2 ?_|refine Z5 ?_|refine Z7 ?_|refine Zc (J2V c s.name hw) ?_|refine Zc (J2t c s.code hw hsl.1) ?_|refine Zi ?_|refine Zl ?_|refine Zo ?_|refine J5 ?_|refine Zp ?_|refine J4 ?_|refine J9 ?_|refine J8 ?_|refine Ja ?_|refine Zt ?_
   exact Ji hm.symm
 have q1:decide (s.kind=1)=false:=J1 k1
 rw[if_neg k1]at hm
 by_cases k2:s.kind=2
 ·have q2:decide (s.kind=2)=true:=J0 k2
  rw[if_pos k2]at hm
  cases v1:decide (0≤s.pos)with
  |false=>
   rw[v1]at hm
   repeat' first|refine Z1 ?_|refine Z2 ?_|refine Z5 ?_|refine Z8 ?_|refine Zm ?_|refine Zo ?_|refine J5 ?_|refine Zp ?_|refine Zq ?_|refine J4 ?_|refine J9 ?_|refine J8 ?_|refine Ja ?_|refine Zt ?_
   exact Ji hm.symm
  |true=>
   cases v2:decide (s.pos<(c.mems.length:Int))with
   |false=>
    rw[v1,v2]at hm
    repeat' first|refine Z1 ?_|refine Z2 ?_|refine Z5 ?_|refine Z7 ?_|refine Z8 ?_|refine Zd ?_|refine Zh ?_|refine Zi ?_|refine Zl ?_|refine Zm ?_|refine Zo ?_|refine J5 ?_|refine Zp ?_|refine Zq ?_|refine J4 ?_|refine J9 ?_|refine J8 ?_|refine Ja ?_|refine Zt ?_
    exact Ji hm.symm
   |true=>
    rw[v1,v2]at hm
    repeat' first|refine Z1 ?_|refine Z2 ?_|refine Z5 ?_|refine Z7 ?_|refine Zc (J2t c s.code hw hsl.1) ?_|refine Zd ?_|refine Zh ?_|refine Zi ?_|refine Zl ?_|refine Zo ?_|refine J5 ?_|refine Zp ?_|refine Zq ?_|refine J4 ?_|refine J9 ?_|refine J8 ?_|refine Ja ?_|refine Zt ?_
    exact Ji hm.symm
 have q2:decide (s.kind=2)=false:=J1 k2
 rw[if_neg k2]at hm
 by_cases k4:s.kind=4
 ·have q4:decide (s.kind=4)=true:=J0 k4
  rw[if_pos k4]at hm
  repeat' first|refine Z1 ?_|refine Z2 ?_|refine Zw ?_|refine Zx ?_|refine Zz (Zc (J0X c hw) ⟨rfl,rfl⟩) ?_|refine Zz (Zc (J37 (nmsC c) s.name hnl) ⟨rfl,rfl⟩) ?_|refine Zo ?_|refine J5 ?_|refine Jy Jr (by decide +kernel) ?_|refine Zp ?_|refine Zq ?_|refine J4 ?_|refine J9 ?_|refine J8 ?_|refine Ja ?_|refine Zt ?_
  exact Ji hm.symm
 have q4:decide (s.kind=4)=false:=J1 k4
 rw[if_neg k4]at hm
 by_cases k5:s.kind=5
 ·have q5:decide (s.kind=5)=true:=J0 k5
  rw[if_pos (.inl k5)]at hm
  repeat' first|refine Z1 ?_|refine Z2 ?_|refine Zo ?_|refine J5 ?_|refine Zp ?_|refine Zq ?_|refine J4 ?_|refine J7 ?_|refine J9 ?_|refine J3 ?_|refine J8 ?_|refine Ja ?_|refine Zt ?_
  exact Ji hm.symm
 have q5:decide (s.kind=5)=false:=J1 k5
 by_cases k6:s.kind=6
 ·have q6:decide (s.kind=6)=true:=J0 k6
  rw[if_pos (.inr k6)]at hm
  repeat' first|refine Z1 ?_|refine Z2 ?_|refine Zo ?_|refine J5 ?_|refine Jd ?_|refine Zp ?_|refine Zq ?_|refine J4 ?_|refine J9 ?_|refine J8 ?_|refine Ja ?_|refine Zt ?_
  exact Ji hm.symm
 have q6:decide (s.kind=6)=false:=J1 k6
 rw[if_neg (fun h=>h.elim k5 k6)]at hm
 by_cases k3:s.kind=3
 ·have q3:decide (s.kind=3)=true:=J0 k3
  rw[if_pos k3]at hm
  by_cases p1:s.pos<0
  ·have n1:decide (s.pos<0)=true:=J0 p1
   rw[if_pos (.inl p1)]at hm
   repeat' first|refine Z1 ?_|refine Z2 ?_|refine Z5 ?_|refine Z9 ?_|refine Zl ?_|refine Zo ?_|refine J5 ?_|refine Jd ?_|refine Zp ?_|refine Zq ?_|refine J4 ?_|refine J9 ?_|refine J8 ?_|refine Ja ?_|refine Zt ?_
   exact Ji hm.symm
  have n1:decide (s.pos<0)=false:=J1 p1
  by_cases p2:(c.insts.length:Int)≤s.pos
  ·have n2:decide ((c.insts.length:Int)≤s.pos)=true:=J0 p2
   rw[if_pos (.inr p2)]at hm
   repeat' first|refine Z1 ?_|refine Z2 ?_|refine Z5 ?_|refine Z7 ?_|refine Zd ?_|refine Zh ?_|refine Zi ?_|refine Zm ?_|refine Zo ?_|refine J5 ?_|refine Jd ?_|refine Zp ?_|refine Zq ?_|refine J4 ?_|refine J9 ?_|refine J8 ?_|refine Ja ?_|refine Zt ?_
   exact Ji hm.symm
  have n2:decide ((c.insts.length:Int)≤s.pos)=false:=J1 p2
  rw[if_neg (fun h=>h.elim p1 p2)]at hm
  obtain⟨p,hp⟩:∃p:Nat,s.pos=(p:Int):=⟨s.pos.toNat,by omega⟩
  obtain⟨g,hg⟩:∃g,c.insts[p]? = some g:=⟨c.insts[p]'(by omega),List.getElem?_eq_getElem (by omega)⟩
  obtain⟨g0,g1⟩:=hin g (List.mem_of_getElem? hg)
  obtain⟨gn,hgn⟩:∃gn:Nat,g=(gn:Int):=⟨g.toNat,by omega⟩
  obtain⟨d,hd2⟩:∃d,cs[gn]? = some d:=⟨cs[gn]'(by omega),List.getElem?_eq_getElem (by omega)⟩
  rw[hp,Int.toNat_natCast,hg,Option.bind_some,hgn,Int.toNat_natCast,hd2]at hm
  dsimp only at hm
  repeat' first|refine Z1 ?_|refine Z2 ?_|refine Z5 ?_|refine Z7 ?_|refine Zd ?_|refine Zh ?_|refine Zi ?_|refine Zm ?_|refine Zo ?_|refine J5 ?_|refine Jd ?_|refine Zp ?_|refine Zq ?_|refine J4 ?_|refine J7 ?_|refine J3 ?_
  refine J09 (fun j=>j=0∨j=1∨j=2) [10,11] Jr (by decide +kernel) ?_
  repeat' first|refine Wl (i:=0) rfl (.inl rfl) ?_|refine Wl (i:=1) rfl (.inr (.inl rfl)) ?_|refine Wl (i:=2) rfl (.inr (.inr rfl)) ?_|refine Wa ?_
  refine Wq (fun σ' _=>Ze (k:=p) ⟨rfl,rfl⟩ rfl (congrArg vi hp) hg) ?_
  refine Wa ?_
  refine Wq (fun σ' _=>Ze (k:=gn) ⟨rfl,rfl⟩ rfl (congrArg vi hgn) hd2) ?_
  refine Wa ?_
  refine We (Yu (i:=3) ⟨rfl,rfl⟩) (.inr (fun j hj=>by rw[St.obj_alloc,if_neg (by show ¬j=3;omega)])) ?_
  refine We (Yt (i:=3) (m:=(eCls d).map .d) rfl ⟨rfl,rfl⟩) (.inl rfl) ?_
  refine Wx ?_
  by_cases ho:s.outs.length=d.outs.length
  ·have n3:decide ((s.outs.length:Int)≠(d.outs.length:Int))=false:=J1 (fun h=>h (by omega))
   by_cases hi:s.args.length=d.ins.length
   ·have n4:decide ((s.args.length:Int)≠(d.ins.length:Int))=false:=J1 (fun h=>h (by omega))
    rw[if_pos ⟨ho,hi⟩]at hm
    repeat' first|refine Z1 ?_|refine Z2 ?_|refine Z5 ?_|refine Z7 ?_|refine Zd ?_|refine Zh ?_|refine Zi ?_|refine Zm ?_|refine Zo ?_|refine J5 ?_|refine Zq ?_|refine J4 ?_|refine J7 ?_|refine J3 ?_
    refine Jo (ι:=Nat) (fun x=>envL [(3,.ref 0 0),(4,.ref 1 0),(5,.ref 2 0),(153,.d (.im (s.outs.map eStr))),(154,vi s.outs.length),(155,vi x)]) (fun x=>stL [some (.var [.d (.im (cs.map eCls))]),some (.var ((eCls c).map .d)),some (.var ((eSm s).map .d)),none]) (fun x=>x≤s.outs.length∧outsS c s.outs x (s.outs.drop x)=outsS c s.outs 0 s.outs) (fun x=>s.outs.length-x) 0 (⟨Nat.zero_le _,rfl⟩) (Jg rfl ⟨.refl _,.refl _,.refl _,.refl _,.refl _,.refl _,trivial⟩ ⟨⟨rfl,_,rfl,rfl,fun _ _ _=>.refl _⟩,⟨rfl,_,rfl,rfl,fun _ _ _=>.refl _⟩,⟨rfl,_,rfl,rfl,fun _ _ _=>.refl _⟩,trivial⟩) (fun _=>Nat.le_refl 4) ?_
    rintro y ⟨l1,l2⟩
    by_cases hyl:y<s.outs.length
    ·obtain⟨x,hy⟩:∃x,s.outs[y]? = some x:=⟨s.outs[y],List.getElem?_eq_getElem hyl⟩
     obtain⟨hd3,hlt3⟩:=Jc hy
     have ey:decide ((y:Int)<(s.outs.length:Int))=true:=J0 (by omega)
     rw[hd3]at l2
     simp only[outsS]at l2
     cases hv:setS c x with
     |false=>
      have n5:(!setS c x)=true:=by rw[hv];rfl
      rw[if_pos (.inl hv)]at l2
      rw[←l2,Bool.false_and]at hm
      repeat' first|refine Z1 ?_|refine Z2 ?_|refine Z5 ?_|refine Z9 ?_|refine Zc (J2V c x hw) ?_|refine Ze ?_|refine Zl ?_|refine Zo ?_|refine J5 ?_|refine Zp ?_|refine J4 ?_|refine J7 ?_|refine J9 ?_|refine J3 ?_|refine J8 ?_|refine Ja ?_|refine Zt ?_
      exact Ji hm.symm
     |true=>
      have n5:(!setS c x)=false:=by rw[hv];rfl
      by_cases he:placeS x 0 s.outs<(y:Int)
      ·have n6:decide (placeS x 0 s.outs<(y:Int))=true:=J0 he
       rw[if_pos (.inr he)]at l2
       rw[←l2,Bool.false_and]at hm
       repeat' first|refine Z1 ?_|refine Z2 ?_|refine Z5 ?_|refine Z7 ?_|refine Zc (J2V c x hw) ?_|refine Zc (J1x s.outs x hsl.2.1) ?_|refine Ze ?_|refine Zh ?_|refine Zi ?_|refine Zm ?_|refine Zo ?_|refine J5 ?_|refine Zp ?_|refine J4 ?_|refine J7 ?_|refine J9 ?_|refine J3 ?_|refine J8 ?_|refine Ja ?_|refine Zt ?_
       exact Ji hm.symm
      ·have n6:decide (placeS x 0 s.outs<(y:Int))=false:=J1 he
       rw[if_neg (fun h=>h.elim (by rw[hv];intro h;cases h) he)]at l2
       repeat' first|refine Z1 ?_|refine Z2 ?_|refine Z5 ?_|refine Z7 ?_|refine Zc (J2V c x hw) ?_|refine Zc (J1x s.outs x hsl.2.1) ?_|refine Ze ?_|refine Zf ?_|refine Zh ?_|refine Zi ?_|refine Zm ?_|refine Zo ?_|refine J5 ?_|refine Jd ?_|refine Zp ?_|refine Zq ?_|refine J4 ?_|refine J7 ?_|refine J3 ?_|refine J6 ?_
       exact⟨y+1,⟨hlt3,l2⟩,by(try simp only);omega,Jh (Nat.le_of_ble_eq_true rfl) ⟨⟨rfl,rfl⟩,⟨rfl,rfl⟩,⟨rfl,rfl⟩,⟨rfl,rfl⟩,⟨rfl,rfl⟩,⟨rfl,rfl⟩,trivial⟩ ⟨⟨rfl,rfl⟩,⟨rfl,rfl⟩,⟨rfl,rfl⟩,trivial⟩⟩
    have ey:decide ((y:Int)<(s.outs.length:Int))=false:=J1 (by omega)
    rw[List.drop_eq_nil_of_le (by omega)]at l2
    have l2:true=outsS c s.outs 0 s.outs:=l2
    rw[←l2,Bool.true_and]at hm
    repeat' first|refine Z1 ?_|refine Z2 ?_|refine Z5 ?_|refine Zd ?_|refine Zo ?_|refine J5 ?_|refine Zq ?_|refine J4 ?_|refine Jf ?_|refine J3 ?_|refine Jb ?_|refine Zv ?_
    refine Jo (ι:=Nat) (fun x=>envL [(3,.ref 0 0),(4,.ref 1 0),(5,.ref 2 0),(174,.d (.im (s.args.map eItms))),(175,vi s.args.length),(176,vi x)]) (fun x=>stL [some (.var [.d (.im (cs.map eCls))]),some (.var ((eCls c).map .d)),some (.var ((eSm s).map .d)),none]) (fun x=>x≤s.args.length∧(s.args.drop x).all (mcodeS c)=s.args.all (mcodeS c)) (fun x=>s.args.length-x) 0 (⟨Nat.zero_le _,rfl⟩) (Jg rfl ⟨.refl _,.refl _,.refl _,.refl _,.refl _,.refl _,trivial⟩ ⟨⟨rfl,_,rfl,rfl,fun _ _ _=>.refl _⟩,⟨rfl,_,rfl,rfl,fun _ _ _=>.refl _⟩,⟨rfl,_,rfl,rfl,fun _ _ _=>.refl _⟩,trivial⟩) (fun _=>Nat.le_refl 4) ?_
    rintro y2 ⟨o1,o2⟩
    by_cases hyl2:y2<s.args.length
    ·obtain⟨x,hy⟩:∃x,s.args[y2]? = some x:=⟨s.args[y2],List.getElem?_eq_getElem hyl2⟩
     obtain⟨hd3,hlt3⟩:=Jc hy
     have ey2:decide ((y2:Int)<(s.args.length:Int))=true:=J0 (by omega)
     have hxl:x.length≤1048576:=by
      have:=Jz (w:=wL wItm) (List.mem_of_getElem? hy)
      simp only[wSm,wL]at this hs
      omega
     rw[hd3,List.all_cons]at o2
     cases hq:mcodeS c x with
     |false=>
      have n5:(!mcodeS c x)=true:=by rw[hq];rfl
      rw[hq]at o2
      have o2:false=s.args.all (mcodeS c):=o2
      rw[←o2]at hm
      repeat' first|refine Z1 ?_|refine Z2 ?_|refine Z5 ?_|refine Zc (J2t c x hw hxl) ?_|refine Ze ?_|refine Zo ?_|refine J5 ?_|refine Zp ?_|refine J4 ?_|refine J7 ?_|refine J9 ?_|refine J3 ?_|refine J8 ?_|refine Ja ?_|refine Zt ?_
      exact Ji hm.symm
     |true=>
      have n5:(!mcodeS c x)=false:=by rw[hq];rfl
      rw[hq,Bool.true_and]at o2
      repeat' first|refine Z1 ?_|refine Z2 ?_|refine Z5 ?_|refine Zc (J2t c x hw hxl) ?_|refine Ze ?_|refine Zf ?_|refine Zo ?_|refine J5 ?_|refine Jd ?_|refine Zp ?_|refine Zq ?_|refine J4 ?_|refine J7 ?_|refine J3 ?_|refine J6 ?_
      exact⟨y2+1,⟨hlt3,o2⟩,by(try simp only);omega,Jh (Nat.le_of_ble_eq_true rfl) ⟨⟨rfl,rfl⟩,⟨rfl,rfl⟩,⟨rfl,rfl⟩,⟨rfl,rfl⟩,⟨rfl,rfl⟩,⟨rfl,rfl⟩,trivial⟩ ⟨⟨rfl,rfl⟩,⟨rfl,rfl⟩,⟨rfl,rfl⟩,trivial⟩⟩
    have ey2:decide ((y2:Int)<(s.args.length:Int))=false:=J1 (by omega)
    rw[List.drop_eq_nil_of_le (by omega)]at o2
    have o2:true=s.args.all (mcodeS c):=o2
    rw[←o2]at hm
    repeat' first|refine Z1 ?_|refine Z2 ?_|refine Zo ?_|refine J5 ?_|refine Zq ?_|refine Jf ?_|refine J9 ?_|refine J3 ?_|refine Jb ?_|refine Zv ?_|refine J8 ?_|refine Ja ?_|refine Zt ?_
    exact Ji hm.symm
   ·have n4:decide ((s.args.length:Int)≠(d.ins.length:Int))=true:=J0 (fun h=>hi (by omega))
    rw[if_neg (fun h=>hi h.2)]at hm
    repeat' first|refine Z1 ?_|refine Z2 ?_|refine Z5 ?_|refine Z7 ?_|refine Zd ?_|refine Zh ?_|refine Zi ?_|refine Zm ?_|refine Zo ?_|refine J5 ?_|refine Zp ?_|refine J9 ?_|refine J8 ?_|refine Ja ?_|refine Zt ?_
    exact Ji hm.symm
  ·have n3:decide ((s.outs.length:Int)≠(d.outs.length:Int))=true:=J0 (fun h=>ho (by omega))
   rw[if_neg (fun h=>ho h.1)]at hm
   repeat' first|refine Z1 ?_|refine Z2 ?_|refine Z5 ?_|refine Z9 ?_|refine Zd ?_|refine Zl ?_|refine Zo ?_|refine J5 ?_|refine Zp ?_|refine J9 ?_|refine J8 ?_|refine Ja ?_|refine Zt ?_
   exact Ji hm.symm
 have q3:decide (s.kind=3)=false:=J1 k3
 rw[if_neg k3]at hm
 repeat' first|refine Z1 ?_|refine Z2 ?_|refine Zo ?_|refine J5 ?_|refine Jd ?_|refine Zq ?_|refine J4 ?_|refine J7 ?_|refine J9 ?_|refine J3 ?_|refine J6 ?_|refine Zt ?_
 exact Ji hm.symm
end Go.Pm
/- Part of the proof: Ms6. -/
namespace Go.Pm
attribute [local irreducible] AR Ok inBlock andThen endQ aoper
set_option maxHeartbeats 4000000
open Go.Proofs
def headS (c:Cls):Bool:=(!nameS c.name)||decide ((c.outs.length:Int)<1)||decide (1000<(c.mems.length:Int))||decide (1000<(c.insts.length:Int))||decide (30000<(c.body.length:Int))
def varsGo (V:List ByteArray):Nat→List ByteArray→Bool
 |_,[]=>true
 |i,x::l=>if nameS x=false∨placeS x 0 V<(i:Int)then false else varsGo V (i+1) l
def typS (x:Slt):Bool:=decide (1≤x.type)&&decide (x.type≤2)
def sameN (c d:Cls):Bool:=decide (d.name=c.name)
def fitS (v:Int):Bool:=decide (v=wrapS v)
def insS (k:Nat) (g:Int):Bool:=decide (0≤g)&&decide (g<(k:Int))
def classS (cs:List Cls) (k:Nat) (c:Cls):Bool:=
 if headS c=true then false
 else if(cs.take k).any (sameN c)=true then false
 else if 1000<((nmsC c).length:Int)then false
 else if varsGo (nmsC c) 0 (nmsC c)=false then false
 else if(c.ins++c.outs).all typS=false then false
 else if c.mems.all fitS=false then false
 else if c.insts.all (insS k)=false then false
 else if c.body.all (stmS cs c)=false then false
 else if nestV c.body 0=false then false
 else withinS writesS c.body
theorem J9Y {l:List Sm} {i:Nat} {s:Sm} (hx:l[i]? = some s) (h4:s.kind=4) {O E:Int} (hp:partsS l i=(O,E)):E<(l.length:Int):=by
 obtain⟨hd,hlt⟩:=Jc hx
 unfold partsS at hp
 rw[hd,J84 h4]at hp
 by_cases hE:E<0
 ·omega
 obtain⟨q,h1,f,h2,_⟩:=J4G _ _ _ _ _ _ (by omega) hp (by omega)
 have:=(List.getElem?_eq_some_iff.1 h2).1
 rw[List.length_drop]at this
 omega
theorem J3e {α:Type} {p:α→Bool} {l:List α} {k:Nat} (h:(l.drop k).all p=l.all p) {x:α} (hx:l[k]? = some x):(p x=false→l.all p=false)∧(p x=true→(l.drop (k+1)).all p=l.all p):=by
 rw[(Jc hx).1,List.all_cons]at h
 exact⟨fun e=>by rw[←h,e];rfl,fun e=>by rw[←h,e];rfl⟩
theorem J8E (cs:List Cls) (k:Nat) (c:Cls) (hx0:cs[k]? = some c) (hw:wL wCls cs≤1048576):PFun X 78 [.agg [.d (.im (cs.map eCls))],vi k] (vb (classS cs k c)):=by
 have hcl:cs.length≤1048576:=by simp only[wL]at hw;omega
 have hk:=(Jc hx0).2
 have hwc:wCls c≤1048576:=by have:=Jz (w:=wCls) (List.mem_of_getElem? hx0);simp only[wL]at hw;omega
 have hnl:=J6k hwc
 have hl:=J1G hwc
 have hws:∀s∈c.body,wSm s≤1048576:=fun s hs=>by have:=Jz (w:=wSm) hs;simp only[wCls,wL]at hwc;omega
 have hm:classS cs k c=classS cs k c:=rfl
 conv at hm=>rhs;unfold classS
 refine Jj Tryz.func78 rfl (by decide) Tryz.ntmps78 Tryz.results78 (by simp) rfl rfl ?_
 refine Zo ?_
 repeat' first|refine Z1 ?_|refine Z2 ?_
 refine Zo ?_
 repeat' first|refine Z1 ?_|refine Z2 ?_|refine Z5 ?_|refine Ze ?_
 refine J5 ?_
 refine J1H (envL [(55,vb (headS c)),(1,vi k),(2,.ref 0 0),(5,.ref 1 0)]) (stL [some (.var [.d (.im (cs.map eCls))]),some (.var ((eCls c).map .d))]) ?_ ?_
 ·
  repeat' first|refine Z1 ?_|refine Z3 ?_|refine Z5 ?_|refine Z7 ?_|refine Z9 ?_|refine Zb (fun hc=>?_) (fun hc=>?_)|refine Zc (J1X c.name) ?_|refine Zd ?_|refine Zh ?_|refine Zi ?_|refine Zl ?_|refine Zm ?_|refine Jd ?_
  all_goals exact⟨rfl,Jg rfl ⟨bq (by simp only[headS, *];try rfl),.refl _,.refl _,.refl _,trivial⟩ ⟨⟨rfl,_,rfl,rfl,fun _ _ _=>.refl _⟩,⟨rfl,_,rfl,rfl,fun _ _ _=>.refl _⟩,trivial⟩⟩
 cases h1:headS c with
 |true=>
  rw[if_pos h1]at hm
  repeat' first|refine Z1 ?_|refine Z2 ?_|refine Zo ?_|refine Zp ?_|refine J9 ?_|refine J8 ?_|refine Zt ?_
  exact Ji hm.symm
 |false=>
 rw[if_neg (by rw[h1];simp)]at hm
 refine Zq ?_
 refine J7 ?_
 refine J3 ?_
 repeat' first|refine Z1 ?_|refine Z2 ?_|refine Zo ?_|refine J5 ?_|refine J4 ?_
 refine Jo (ι:=Nat) (fun x=>envL [(1,vi k),(2,.ref 0 0),(5,.ref 1 0),(6,vi x)]) (fun x=>stL [some (.var [.d (.im (cs.map eCls))]),some (.var ((eCls c).map .d))]) (fun x=>x≤k∧((cs.take k).drop x).any (sameN c)=(cs.take k).any (sameN c)) (fun x=>k-x) 0 (⟨Nat.zero_le _,rfl⟩) (Jg rfl ⟨.refl _,.refl _,.refl _,.refl _,trivial⟩ ⟨⟨rfl,_,rfl,rfl,fun _ _ _=>.refl _⟩,⟨rfl,_,rfl,rfl,fun _ _ _=>.refl _⟩,trivial⟩) (fun _=>Nat.le_refl 2) ?_
 rintro x ⟨i1,i2⟩
 by_cases hxk:x<k
 ·have ex:decide ((x:Int)<(k:Int))=true:=J0 (by omega)
  obtain⟨d,hd⟩:∃d,cs[x]? = some d:=⟨cs[x]'(by omega),List.getElem?_eq_getElem (by omega)⟩
  have hd2:(cs.take k)[x]? = some d:=by rw[List.getElem?_take,if_pos hxk];exact hd
  rw[(Jc hd2).1,List.any_cons]at i2
  cases hq:decide (d.name=c.name)with
  |true=>
   have hm:classS cs k c=false:=by rw[hm,if_pos];rw[←i2,show sameN c d=true from hq];rfl
   repeat' first|refine Z1 ?_|refine Z2 ?_|refine Zw ?_|refine Zx ?_|refine Zz (Ze ⟨rfl,rfl⟩) ?_|refine Zo ?_|refine J5 ?_|refine Jy Jr (by decide +kernel) ?_|refine Zp ?_|refine J4 ?_|refine J7 ?_|refine J9 ?_|refine J3 ?_|refine J8 ?_|refine Ja ?_|refine Zt ?_
   exact Ji hm.symm
  |false=>
   rw[show sameN c d=false from hq,Bool.false_or]at i2
   repeat' first|refine Z1 ?_|refine Z2 ?_|refine Z5 ?_|refine Zf ?_|refine Zw ?_|refine Zx ?_|refine Zz (Ze ⟨rfl,rfl⟩) ?_|refine Zo ?_|refine J5 ?_|refine Jd ?_|refine Jy Jr (by decide +kernel) ?_|refine Zp ?_|refine Zq ?_|refine J4 ?_|refine J7 ?_|refine J3 ?_|refine J6 ?_
   exact⟨x+1,⟨hxk,i2⟩,by(try simp only);omega,Jh (Nat.le_of_ble_eq_true rfl) ⟨⟨rfl,rfl⟩,⟨rfl,rfl⟩,⟨rfl,rfl⟩,⟨rfl,rfl⟩,trivial⟩ ⟨⟨rfl,rfl⟩,⟨rfl,rfl⟩,trivial⟩⟩
 have ex:decide ((x:Int)<(k:Int))=false:=J1 (by omega)
 rw[List.drop_eq_nil_of_le (by rw[List.length_take];omega)]at i2
 have i2:false=(cs.take k).any (sameN c):=i2
 rw[if_neg (by rw[←i2];simp)]at hm
 by_cases h3:1000<((nmsC c).length:Int)
 ·have e3:decide (1000<((nmsC c).length:Int))=true:=J0 h3
  rw[if_pos h3]at hm
  repeat' first|refine Z1 ?_|refine Z2 ?_|refine Z5 ?_|refine Zc (J0X c hwc) ?_|refine Zd ?_|refine Zo ?_|refine J5 ?_|refine Zp ?_|refine Zq ?_|refine Jf ?_|refine J9 ?_|refine J3 ?_|refine Jb ?_|refine Zv ?_|refine J8 ?_|refine Zt ?_
  exact Ji hm.symm
 have e3:decide (1000<((nmsC c).length:Int))=false:=J1 h3
 rw[if_neg h3]at hm
 repeat' first|refine Z1 ?_|refine Z2 ?_|refine Z5 ?_|refine Zc (J0X c hwc) ?_|refine Zd ?_|refine Zo ?_|refine J5 ?_|refine Zq ?_|refine J4 ?_|refine Jf ?_|refine J7 ?_|refine J3 ?_|refine Jb ?_|refine Zv ?_
 refine Jo (ι:=Nat) (fun x=>envL [(1,vi k),(2,.ref 0 0),(5,.ref 1 0),(7,.d (.im ((nmsC c).map eStr))),(75,.d (.im ((nmsC c).map eStr))),(76,vi (nmsC c).length),(77,vi x)]) (fun x=>stL [some (.var [.d (.im (cs.map eCls))]),some (.var ((eCls c).map .d))]) (fun x=>x≤(nmsC c).length∧varsGo (nmsC c) x ((nmsC c).drop x)=varsGo (nmsC c) 0 (nmsC c)) (fun x=>(nmsC c).length-x) 0 (⟨Nat.zero_le _,rfl⟩) (Jg rfl ⟨.refl _,.refl _,.refl _,.refl _,.refl _,.refl _,.refl _,trivial⟩ ⟨⟨rfl,_,rfl,rfl,fun _ _ _=>.refl _⟩,⟨rfl,_,rfl,rfl,fun _ _ _=>.refl _⟩,trivial⟩) (fun _=>Nat.le_refl 2) ?_
 rintro x ⟨i1,i2⟩
 rcases hx:(nmsC c)[x]? with _|y
 rotate_left
 ·obtain⟨hd,hlt⟩:=Jc hx
  have ek:decide ((x:Int)<((nmsC c).length:Int))=true:=J0 (by omega)
  rw[hd]at i2
  simp only[varsGo]at i2
  cases hn:nameS y with
  |false=>
   have n1:(!nameS y)=true:=by rw[hn];rfl
   rw[if_pos (.inl hn)]at i2
   rw[if_pos i2.symm]at hm
   repeat' first|refine Z1 ?_|refine Z2 ?_|refine Z5 ?_|refine Z9 ?_|refine Zc (J1X y) ?_|refine Ze ?_|refine Zl ?_|refine Zo ?_|refine J5 ?_|refine Zp ?_|refine J4 ?_|refine J7 ?_|refine J9 ?_|refine J3 ?_|refine J8 ?_|refine Ja ?_|refine Zt ?_
   exact Ji hm.symm
  |true=>
   have n1:(!nameS y)=false:=by rw[hn];rfl
   by_cases hp:placeS y 0 (nmsC c)<(x:Int)
   ·have n2:decide (placeS y 0 (nmsC c)<(x:Int))=true:=J0 hp
    rw[if_pos (.inr hp)]at i2
    rw[if_pos i2.symm]at hm
    repeat' first|refine Z1 ?_|refine Z2 ?_|refine Z5 ?_|refine Z7 ?_|refine Zc (J1X y) ?_|refine Zc (J1x (nmsC c) y hnl) ?_|refine Ze ?_|refine Zh ?_|refine Zi ?_|refine Zm ?_|refine Zo ?_|refine J5 ?_|refine Zp ?_|refine J4 ?_|refine J7 ?_|refine J9 ?_|refine J3 ?_|refine J8 ?_|refine Ja ?_|refine Zt ?_
    exact Ji hm.symm
   ·have n2:decide (placeS y 0 (nmsC c)<(x:Int))=false:=J1 hp
    rw[if_neg (fun h=>h.elim (by rw[hn];intro h;cases h) hp)]at i2
    repeat' first|refine Z1 ?_|refine Z2 ?_|refine Z5 ?_|refine Z7 ?_|refine Zc (J1X y) ?_|refine Zc (J1x (nmsC c) y hnl) ?_|refine Ze ?_|refine Zf ?_|refine Zh ?_|refine Zi ?_|refine Zm ?_|refine Zo ?_|refine J5 ?_|refine Jd ?_|refine Zp ?_|refine Zq ?_|refine J4 ?_|refine J7 ?_|refine J3 ?_|refine J6 ?_
    exact⟨x+1,⟨hlt,i2⟩,by(try simp only);omega,Jh (Nat.le_of_ble_eq_true rfl) ⟨⟨rfl,rfl⟩,⟨rfl,rfl⟩,⟨rfl,rfl⟩,⟨rfl,rfl⟩,⟨rfl,rfl⟩,⟨rfl,rfl⟩,⟨rfl,rfl⟩,trivial⟩ ⟨⟨rfl,rfl⟩,⟨rfl,rfl⟩,trivial⟩⟩
 have hle:=Jk hx
 have ek:decide ((x:Int)<((nmsC c).length:Int))=false:=J1 (by omega)
 rw[Jm hx]at i2
 have i2:true=varsGo (nmsC c) 0 (nmsC c):=i2
 rw[if_neg (by rw[←i2];simp)]at hm
 repeat' first|refine Z1 ?_|refine Z2 ?_|refine Zo ?_|refine J5 ?_|refine Zq ?_|refine Jf ?_|refine J3 ?_|refine Jb ?_|refine Zv ?_
 refine J09 (fun j=>j=1) [0,3,6] Jr (by decide +kernel) ?_
 refine We (Yw (sz:=2) (rows:=[]) (n:=2) ⟨rfl,rfl⟩) (.inr (fun j hj=>by rw[St.obj_alloc,if_neg (by show ¬j=2;omega)])) ?_
 repeat' first|refine Wa ?_|refine Wl (i:=1) rfl rfl ?_
 refine We (Yl (e:=eSlt) (l:=[]) c.ins ⟨rfl,rfl⟩) (.inr (fun j hj=>by rw[J0J,if_neg (by omega)])) ?_
 repeat' first|refine Wa ?_|refine Wl (i:=1) rfl rfl ?_
 refine We (Yl (e:=eSlt) (l:=[]++c.ins) c.outs ⟨rfl,rfl⟩) (.inr (fun j hj=>by rw[J0J,if_neg (by omega)])) ?_
 repeat' first|refine Wa ?_
 refine Wx ?_
 repeat' first|refine J4 ?_
 refine Jo (ι:=Nat) (fun x=>envL [(1,vi k),(2,.ref 0 0),(5,.ref 1 0),(99,.sl 2 4 0 (c.ins++c.outs).length),(100,vi (c.ins++c.outs).length),(101,vi x)]) (fun x=>stL [some (.var [.d (.im (cs.map eCls))]),some (.var ((eCls c).map .d)),some (.row 4 88 2 (im2 eSlt (c.ins++c.outs))),none,none]) (fun x=>x≤(c.ins++c.outs).length∧((c.ins++c.outs).drop x).all typS=(c.ins++c.outs).all typS) (fun x=>(c.ins++c.outs).length-x) 0 (⟨Nat.zero_le _,rfl⟩) (Jg rfl ⟨.refl _,.refl _,.refl _,.refl _,.refl _,.refl _,trivial⟩ ⟨⟨rfl,_,rfl,rfl,fun _ _ _=>.refl _⟩,⟨rfl,_,rfl,rfl,fun _ _ _=>.refl _⟩,⟨rfl,_,rfl,rfl,rfl,rfl,rfl⟩,trivial⟩) (fun _=>Nat.le_refl 5) ?_
 rintro x ⟨i1,i2⟩
 have hll:(c.ins++c.outs).length≤1048576:=by rw[List.length_append];omega
 rcases hx:(c.ins++c.outs)[x]? with _|y
 rotate_left
 ·obtain⟨hd,hlt⟩:=Jc hx
  have ek:decide ((x:Int)<((c.ins++c.outs).length:Int))=true:=J0 (by omega)
  obtain⟨a1,a2⟩:=J3e i2 hx
  have hr:(im2 eSlt (c.ins++c.outs))[x]? = some ((eSlt y).map .d):=J2E hx
  by_cases t1:y.type<1
  ·have u1:decide (y.type<1)=true:=J0 t1
   rw[if_pos (a1 (by simp only[typS];rw[J1 (by omega)];rfl))]at hm
   repeat' first|refine Z1 ?_|refine Z2 ?_|refine Z5 ?_|refine Z9 ?_|refine Yf (n:=(x:Int)) x rfl hlt ?_|refine Ye hr ?_|refine Zl ?_|refine Zo ?_|refine J5 ?_|refine Zp ?_|refine J4 ?_|refine J7 ?_|refine J9 ?_|refine J3 ?_|refine J8 ?_|refine Ja ?_|refine Zt ?_
   exact Ji hm.symm
  have u1:decide (y.type<1)=false:=J1 t1
  by_cases t2:2<y.type
  ·have u2:decide (2<y.type)=true:=J0 t2
   rw[if_pos (a1 (by simp only[typS];rw[J1 (show ¬y.type≤2 by omega),Bool.and_false]))]at hm
   repeat' first|refine Z1 ?_|refine Z2 ?_|refine Z5 ?_|refine Z7 ?_|refine Yf (n:=(x:Int)) x rfl hlt ?_|refine Ye hr ?_|refine Zh ?_|refine Zi ?_|refine Zm ?_|refine Zo ?_|refine J5 ?_|refine Zp ?_|refine J4 ?_|refine J7 ?_|refine J9 ?_|refine J3 ?_|refine J8 ?_|refine Ja ?_|refine Zt ?_
   exact Ji hm.symm
  have u2:decide (2<y.type)=false:=J1 t2
  repeat' first|refine Z1 ?_|refine Z2 ?_|refine Z5 ?_|refine Z7 ?_|refine Yf (n:=(x:Int)) x rfl hlt ?_|refine Ye hr ?_|refine Zf ?_|refine Zh ?_|refine Zi ?_|refine Zm ?_|refine Zo ?_|refine J5 ?_|refine Jd ?_|refine Zp ?_|refine Zq ?_|refine J4 ?_|refine J7 ?_|refine J3 ?_|refine J6 ?_
  exact⟨x+1,⟨hlt,a2 (by simp only[typS];rw[J0 (show 1≤y.type by omega),J0 (show y.type≤2 by omega)];rfl)⟩,by(try simp only);omega,Jh (Nat.le_of_ble_eq_true rfl) ⟨⟨rfl,rfl⟩,⟨rfl,rfl⟩,⟨rfl,rfl⟩,⟨rfl,rfl⟩,⟨rfl,rfl⟩,⟨rfl,rfl⟩,trivial⟩ ⟨⟨rfl,rfl⟩,⟨rfl,rfl⟩,⟨rfl,Je rfl,Jl _ _ _⟩,trivial⟩⟩
 have hle:=Jk hx
 have ek:decide ((x:Int)<((c.ins++c.outs).length:Int))=false:=J1 (by omega)
 rw[Jm hx]at i2
 have i2:true=(c.ins++c.outs).all typS:=i2
 rw[if_neg (by rw[←i2];simp)]at hm
 repeat' first|refine Z1 ?_|refine Z2 ?_|refine Z5 ?_|refine Zd ?_|refine Zo ?_|refine J5 ?_|refine Zq ?_|refine J4 ?_|refine Jf ?_|refine J3 ?_|refine Jb ?_|refine Zv ?_
 refine Jo (ι:=Nat) (fun x=>envL [(1,vi k),(2,.ref 0 0),(5,.ref 1 0),(115,.d (.im (c.mems.map eNum))),(116,vi c.mems.length),(117,vi x)]) (fun x=>stL [some (.var [.d (.im (cs.map eCls))]),some (.var ((eCls c).map .d)),none,none,none]) (fun x=>x≤c.mems.length∧(c.mems.drop x).all fitS=c.mems.all fitS) (fun x=>c.mems.length-x) 0 (⟨Nat.zero_le _,rfl⟩) (Jg rfl ⟨.refl _,.refl _,.refl _,.refl _,.refl _,.refl _,trivial⟩ ⟨⟨rfl,_,rfl,rfl,fun _ _ _=>.refl _⟩,⟨rfl,_,rfl,rfl,fun _ _ _=>.refl _⟩,trivial⟩) (fun _=>Nat.le_refl 5) ?_
 rintro x ⟨i1,i2⟩
 rcases hx:c.mems[x]? with _|v
 rotate_left
 ·obtain⟨hd,hlt⟩:=Jc hx
  have ek:decide ((x:Int)<(c.mems.length:Int))=true:=J0 (by omega)
  obtain⟨a1,a2⟩:=J3e i2 hx
  by_cases t1:v=wrapS v
  ·have u1:decide (v≠wrapS v)=false:=J1 (fun h=>h t1)
   repeat' first|refine Z1 ?_|refine Z2 ?_|refine Z5 ?_|refine Zc (J73 v) ?_|refine Ze ?_|refine Zf ?_|refine Zo ?_|refine J5 ?_|refine Jd ?_|refine Zp ?_|refine Zq ?_|refine J4 ?_|refine J7 ?_|refine J3 ?_|refine J6 ?_
   exact⟨x+1,⟨hlt,a2 (J0 t1)⟩,by(try simp only);omega,Jh (Nat.le_of_ble_eq_true rfl) ⟨⟨rfl,rfl⟩,⟨rfl,rfl⟩,⟨rfl,rfl⟩,⟨rfl,rfl⟩,⟨rfl,rfl⟩,⟨rfl,rfl⟩,trivial⟩ ⟨⟨rfl,rfl⟩,⟨rfl,rfl⟩,trivial⟩⟩
  ·have u1:decide (v≠wrapS v)=true:=J0 t1
   rw[if_pos (a1 (J1 t1))]at hm
   repeat' first|refine Z1 ?_|refine Z2 ?_|refine Z5 ?_|refine Zc (J73 v) ?_|refine Ze ?_|refine Zo ?_|refine J5 ?_|refine Zp ?_|refine J4 ?_|refine J7 ?_|refine J9 ?_|refine J3 ?_|refine J8 ?_|refine Ja ?_|refine Zt ?_
   exact Ji hm.symm
 have hle:=Jk hx
 have ek:decide ((x:Int)<(c.mems.length:Int))=false:=J1 (by omega)
 rw[Jm hx]at i2
 have i2:true=c.mems.all fitS:=i2
 rw[if_neg (by rw[←i2];simp)]at hm
 repeat' first|refine Z1 ?_|refine Z2 ?_|refine Z5 ?_|refine Zd ?_|refine Zo ?_|refine J5 ?_|refine Zq ?_|refine J4 ?_|refine Jf ?_|refine J3 ?_|refine Jb ?_|refine Zv ?_
 refine Jo (ι:=Nat) (fun x=>envL [(1,vi k),(2,.ref 0 0),(5,.ref 1 0),(127,.d (.im (c.insts.map eNum))),(128,vi c.insts.length),(129,vi x)]) (fun x=>stL [some (.var [.d (.im (cs.map eCls))]),some (.var ((eCls c).map .d)),none,none,none]) (fun x=>x≤c.insts.length∧(c.insts.drop x).all (insS k)=c.insts.all (insS k)) (fun x=>c.insts.length-x) 0 (⟨Nat.zero_le _,rfl⟩) (Jg rfl ⟨.refl _,.refl _,.refl _,.refl _,.refl _,.refl _,trivial⟩ ⟨⟨rfl,_,rfl,rfl,fun _ _ _=>.refl _⟩,⟨rfl,_,rfl,rfl,fun _ _ _=>.refl _⟩,trivial⟩) (fun _=>Nat.le_refl 5) ?_
 rintro x ⟨i1,i2⟩
 rcases hx:c.insts[x]? with _|v
 rotate_left
 ·obtain⟨hd,hlt⟩:=Jc hx
  have ek:decide ((x:Int)<(c.insts.length:Int))=true:=J0 (by omega)
  obtain⟨a1,a2⟩:=J3e i2 hx
  by_cases t1:v<0
  ·have u1:decide (v<0)=true:=J0 t1
   rw[if_pos (a1 (by simp only[insS];rw[J1 (show ¬0≤v by omega)];rfl))]at hm
   repeat' first|refine Z1 ?_|refine Z2 ?_|refine Z5 ?_|refine Z9 ?_|refine Ze ?_|refine Zl ?_|refine Zo ?_|refine J5 ?_|refine Zp ?_|refine J4 ?_|refine J7 ?_|refine J9 ?_|refine J3 ?_|refine J8 ?_|refine Ja ?_|refine Zt ?_
   exact Ji hm.symm
  have u1:decide (v<0)=false:=J1 t1
  by_cases t2:(k:Int)≤v
  ·have u2:decide ((k:Int)≤v)=true:=J0 t2
   rw[if_pos (a1 (by simp only[insS];rw[J1 (show ¬v<(k:Int) by omega),Bool.and_false]))]at hm
   repeat' first|refine Z1 ?_|refine Z2 ?_|refine Z5 ?_|refine Z7 ?_|refine Ze ?_|refine Zh ?_|refine Zi ?_|refine Zm ?_|refine Zo ?_|refine J5 ?_|refine Zp ?_|refine J4 ?_|refine J7 ?_|refine J9 ?_|refine J3 ?_|refine J8 ?_|refine Ja ?_|refine Zt ?_
   exact Ji hm.symm
  have u2:decide ((k:Int)≤v)=false:=J1 t2
  repeat' first|refine Z1 ?_|refine Z2 ?_|refine Z5 ?_|refine Z7 ?_|refine Ze ?_|refine Zf ?_|refine Zh ?_|refine Zi ?_|refine Zm ?_|refine Zo ?_|refine J5 ?_|refine Jd ?_|refine Zp ?_|refine Zq ?_|refine J4 ?_|refine J7 ?_|refine J3 ?_|refine J6 ?_
  exact⟨x+1,⟨hlt,a2 (by simp only[insS];rw[J0 (show 0≤v by omega),J0 (show v<(k:Int) by omega)];rfl)⟩,by(try simp only);omega,Jh (Nat.le_of_ble_eq_true rfl) ⟨⟨rfl,rfl⟩,⟨rfl,rfl⟩,⟨rfl,rfl⟩,⟨rfl,rfl⟩,⟨rfl,rfl⟩,⟨rfl,rfl⟩,trivial⟩ ⟨⟨rfl,rfl⟩,⟨rfl,rfl⟩,trivial⟩⟩
 have hle:=Jk hx
 have ek:decide ((x:Int)<(c.insts.length:Int))=false:=J1 (by omega)
 rw[Jm hx]at i2
 have i2:true=c.insts.all (insS k):=i2
 rw[if_neg (by rw[←i2];simp)]at hm
 have hin:∀g∈c.insts,0≤g∧g<(k:Int):=fun g hg=>by
  have:=List.all_eq_true.1 i2.symm g hg
  simpa[insS]using this
 repeat' first|refine Z1 ?_|refine Z2 ?_|refine Z5 ?_|refine Zd ?_|refine Zo ?_|refine J5 ?_|refine Zq ?_|refine J4 ?_|refine Jf ?_|refine J3 ?_|refine Jb ?_|refine Zv ?_
 refine Jo (ι:=Nat) (fun x=>envL [(1,vi k),(2,.ref 0 0),(5,.ref 1 0),(142,.d (.im (c.body.map eSm))),(143,vi c.body.length),(144,vi x)]) (fun x=>stL [some (.var [.d (.im (cs.map eCls))]),some (.var ((eCls c).map .d)),none,none,none]) (fun x=>x≤c.body.length∧(c.body.drop x).all (stmS cs c)=c.body.all (stmS cs c)) (fun x=>c.body.length-x) 0 (⟨Nat.zero_le _,rfl⟩) (Jg rfl ⟨.refl _,.refl _,.refl _,.refl _,.refl _,.refl _,trivial⟩ ⟨⟨rfl,_,rfl,rfl,fun _ _ _=>.refl _⟩,⟨rfl,_,rfl,rfl,fun _ _ _=>.refl _⟩,trivial⟩) (fun _=>Nat.le_refl 5) ?_
 rintro x ⟨i1,i2⟩
 rcases hx:c.body[x]? with _|s
 rotate_left
 ·obtain⟨hd,hlt⟩:=Jc hx
  have ek:decide ((x:Int)<(c.body.length:Int))=true:=J0 (by omega)
  obtain⟨a1,a2⟩:=J3e i2 hx
  have hst:=Jap cs k c s hcl hwc (hws s (List.mem_of_getElem? hx)) hk hin
  cases hq:stmS cs c s with
  |false=>
   have n1:(!stmS cs c s)=true:=by rw[hq];rfl
   rw[if_pos (a1 hq)]at hm
   repeat' first|refine Z1 ?_|refine Z2 ?_|refine Z5 ?_|refine Zc (hst) ?_|refine Ze ?_|refine Zo ?_|refine J5 ?_|refine Zp ?_|refine J4 ?_|refine J7 ?_|refine J9 ?_|refine J3 ?_|refine J8 ?_|refine Ja ?_|refine Zt ?_
   exact Ji hm.symm
  |true=>
   have n1:(!stmS cs c s)=false:=by rw[hq];rfl
   repeat' first|refine Z1 ?_|refine Z2 ?_|refine Z5 ?_|refine Zc (hst) ?_|refine Ze ?_|refine Zf ?_|refine Zo ?_|refine J5 ?_|refine Jd ?_|refine Zp ?_|refine Zq ?_|refine J4 ?_|refine J7 ?_|refine J3 ?_|refine J6 ?_
   exact⟨x+1,⟨hlt,a2 hq⟩,by(try simp only);omega,Jh (Nat.le_of_ble_eq_true rfl) ⟨⟨rfl,rfl⟩,⟨rfl,rfl⟩,⟨rfl,rfl⟩,⟨rfl,rfl⟩,⟨rfl,rfl⟩,⟨rfl,rfl⟩,trivial⟩ ⟨⟨rfl,rfl⟩,⟨rfl,rfl⟩,trivial⟩⟩
 have hle:=Jk hx
 have ek:decide ((x:Int)<(c.body.length:Int))=false:=J1 (by omega)
 rw[Jm hx]at i2
 have i2:true=c.body.all (stmS cs c):=i2
 rw[if_neg (by rw[←i2];simp)]at hm
 have hnest:=J9U c.body.length c.body 0 rfl (by omega) (Int.le_refl _) (by omega)
 cases hnv:nestV c.body 0 with
 |false=>
  have n1:(!nestV c.body 0)=true:=by rw[hnv];rfl
  rw[if_pos hnv]at hm
  repeat' first|refine Z1 ?_|refine Z2 ?_|refine Z5 ?_|refine Zc (hnest) ?_|refine Zo ?_|refine J5 ?_|refine Zp ?_|refine Zq ?_|refine Jf ?_|refine J9 ?_|refine J3 ?_|refine Jb ?_|refine Zv ?_|refine J8 ?_|refine Zt ?_
  exact Ji hm.symm
 |true=>
 have n1:(!nestV c.body 0)=false:=by rw[hnv];rfl
 rw[if_neg (by rw[hnv];simp)]at hm
 repeat' first|refine Z1 ?_|refine Z2 ?_|refine Z5 ?_|refine Zc (hnest) ?_|refine Zd ?_|refine Zo ?_|refine J5 ?_|refine Zq ?_|refine J4 ?_|refine Jf ?_|refine J7 ?_|refine J3 ?_|refine Jb ?_|refine Zv ?_
 refine Jo (ι:=Nat) (fun x=>envL [(1,vi k),(2,.ref 0 0),(5,.ref 1 0),(159,.d (.im (c.body.map eSm))),(160,vi c.body.length),(161,vi x)]) (fun x=>stL [some (.var [.d (.im (cs.map eCls))]),some (.var ((eCls c).map .d)),none,none,none]) (fun x=>x≤c.body.length∧∀j,j<x→withinAt writesS c.body j=true) (fun x=>c.body.length-x) 0 (⟨Nat.zero_le _,fun j hj=>by omega⟩) (Jg rfl ⟨.refl _,.refl _,.refl _,.refl _,.refl _,.refl _,trivial⟩ ⟨⟨rfl,_,rfl,rfl,fun _ _ _=>.refl _⟩,⟨rfl,_,rfl,rfl,fun _ _ _=>.refl _⟩,trivial⟩) (fun _=>Nat.le_refl 5) ?_
 rintro q ⟨i1,i2⟩
 rcases hx:c.body[q]? with _|s
 ·have hle:=Jk hx
  have ek:decide ((q:Int)<(c.body.length:Int))=false:=J1 (by omega)
  repeat' first|refine Z1 ?_|refine Z2 ?_|refine Zo ?_|refine J5 ?_|refine Zq ?_|refine Jf ?_|refine J9 ?_|refine J3 ?_|refine Jb ?_|refine Zv ?_|refine Zt ?_
  refine Ji (Eq.trans ?_ hm.symm)
  symm
  unfold withinS
  rw[List.all_eq_true]
  intro j hj
  exact i2 j (by have:=List.mem_range.1 hj;omega)
 obtain⟨hd,hlt⟩:=Jc hx
 have ek:decide ((q:Int)<(c.body.length:Int))=true:=J0 (by omega)
 have nxt:withinAt writesS c.body q=true→∀j,j<q+1→withinAt writesS c.body j=true:=by
  intro h j hj
  rcases Nat.lt_or_ge j q with h1|h1
  ·exact i2 j h1
  ·rw[show j=q by omega];exact h
 by_cases k4:s.kind=4
 ·have d4:decide (s.kind=4)=true:=J0 k4
  have hps:=J1w c.body q i1 (by omega)
  have hwq:withinAt writesS c.body q = !(((c.body.drop q).take ((partsS c.body q).2.toNat-q)).any fun t=>writesS t s.name):=by
   unfold withinAt;rw[hx];simp only[k4,if_true]
  rcases hp:partsS c.body q with⟨O,E⟩
  have hEl:=J9Y hx k4 hp
  rw[hp]at hps hwq
  dsimp only at hwq
  repeat' first|refine Z1 ?_|refine Z2 ?_|refine Z5 ?_|refine Zc (hps) ?_|refine Ze ?_|refine Zo ?_|refine J5 ?_|refine Zp ?_|refine J4 ?_|refine J7 ?_|refine J3 ?_
  refine Jo (ι:=Nat) (fun x=>envL [(1,vi k),(2,.ref 0 0),(5,.ref 1 0),(159,.d (.im (c.body.map eSm))),(160,vi c.body.length),(161,vi q),(19,.ref 5 0),(21,vi E),(22,vi x)]) (fun x=>stL [some (.var [.d (.im (cs.map eCls))]),some (.var ((eCls c).map .d)),none,none,none,some (.var ((eSm s).map .d))]) (fun x=>x≤c.body.length∧(((c.body.drop x).take (E.toNat-x)).any fun t=>writesS t s.name)=(((c.body.drop q).take (E.toNat-q)).any fun t=>writesS t s.name)) (fun x=>c.body.length-x) q (⟨i1,rfl⟩) (Jg rfl ⟨.refl _,.refl _,.refl _,.refl _,.refl _,.refl _,.refl _,.refl _,.refl _,trivial⟩ ⟨⟨rfl,_,rfl,rfl,fun _ _ _=>.refl _⟩,⟨rfl,_,rfl,rfl,fun _ _ _=>.refl _⟩,⟨rfl,_,rfl,rfl,fun _ _ _=>.refl _⟩,trivial⟩) (fun _=>Nat.le_refl 6) ?_
  rintro x ⟨j1,j2⟩
  by_cases hxe:(x:Int)<E
  ·have ee:decide ((x:Int)<E)=true:=J0 hxe
   obtain⟨t,ht⟩:∃t,c.body[x]? = some t:=⟨c.body[x]'(by omega),List.getElem?_eq_getElem (by omega)⟩
   obtain⟨hdt,hlt2⟩:=Jc ht
   rw[hdt,show E.toNat-x=(E.toNat-(x+1))+1 by omega,List.take_succ_cons,List.any_cons]at j2
   have hwt:=J7D t s.name (hws t (List.mem_of_getElem? ht))
   cases hq:writesS t s.name with
   |true=>
    rw[hq,Bool.true_or]at j2
    have hf:withinAt writesS c.body q=false:=by rw[hwq,←j2];rfl
    have hm:classS cs k c=false:=by
     rw[hm]
     cases hz:withinS writesS c.body with
     |false=>rfl
     |true=>
      have:=List.all_eq_true.1 hz q (List.mem_range.2 hlt)
      rw[hf]at this;cases this
    repeat' first|refine Z1 ?_|refine Z2 ?_|refine Zw ?_|refine Zx ?_|refine Zz (Zc (hwt) ⟨rfl,rfl⟩) ?_|refine Zz (Ze ⟨rfl,rfl⟩) ?_|refine Zo ?_|refine J5 ?_|refine Jy Jr (by decide +kernel) ?_|refine Zp ?_|refine J4 ?_|refine J7 ?_|refine J9 ?_|refine J3 ?_|refine J8 ?_|refine Ja ?_|refine Zt ?_
    exact Ji hm.symm
   |false=>
    rw[hq,Bool.false_or]at j2
    repeat' first|refine Z1 ?_|refine Z2 ?_|refine Z5 ?_|refine Zf ?_|refine Zw ?_|refine Zx ?_|refine Zz (Zc (hwt) ⟨rfl,rfl⟩) ?_|refine Zz (Ze ⟨rfl,rfl⟩) ?_|refine Zo ?_|refine J5 ?_|refine Jd ?_|refine Jy Jr (by decide +kernel) ?_|refine Zp ?_|refine Zq ?_|refine J4 ?_|refine J7 ?_|refine J3 ?_|refine J6 ?_
    exact⟨x+1,⟨hlt2,j2⟩,by(try simp only);omega,Jh (Nat.le_of_ble_eq_true rfl) ⟨⟨rfl,rfl⟩,⟨rfl,rfl⟩,⟨rfl,rfl⟩,⟨rfl,rfl⟩,⟨rfl,rfl⟩,⟨rfl,rfl⟩,⟨rfl,rfl⟩,⟨rfl,rfl⟩,⟨rfl,rfl⟩,trivial⟩ ⟨⟨rfl,rfl⟩,⟨rfl,rfl⟩,⟨rfl,rfl⟩,trivial⟩⟩
  have ee:decide ((x:Int)<E)=false:=J1 hxe
  rw[show E.toNat-x=0 by omega,List.take_zero]at j2
  have hg:=nxt (by rw[hwq,←j2];rfl)
  repeat' first|refine Z1 ?_|refine Z2 ?_|refine Z5 ?_|refine Zf ?_|refine Zo ?_|refine J5 ?_|refine Jd ?_|refine Zq ?_|refine Jf ?_|refine J3 ?_|refine Jb ?_|refine Zv ?_|refine J6 ?_
  exact⟨q+1,⟨hlt,hg⟩,by(try simp only);omega,Jh (Nat.le_of_ble_eq_true rfl) ⟨⟨rfl,rfl⟩,⟨rfl,rfl⟩,⟨rfl,rfl⟩,⟨rfl,rfl⟩,⟨rfl,rfl⟩,⟨rfl,rfl⟩,trivial⟩ ⟨⟨rfl,rfl⟩,⟨rfl,rfl⟩,trivial⟩⟩
 have d4:decide (s.kind=4)=false:=J1 k4
 have hg:=nxt (by unfold withinAt;rw[hx];simp only[k4,if_false])
 repeat' first|refine Z1 ?_|refine Z2 ?_|refine Z5 ?_|refine Ze ?_|refine Zf ?_|refine Zo ?_|refine J5 ?_|refine Jd ?_|refine Zp ?_|refine Zq ?_|refine J4 ?_|refine J7 ?_|refine J3 ?_|refine J6 ?_
 exact⟨q+1,⟨hlt,hg⟩,by(try simp only);omega,Jh (Nat.le_of_ble_eq_true rfl) ⟨⟨rfl,rfl⟩,⟨rfl,rfl⟩,⟨rfl,rfl⟩,⟨rfl,rfl⟩,⟨rfl,rfl⟩,⟨rfl,rfl⟩,trivial⟩ ⟨⟨rfl,rfl⟩,⟨rfl,rfl⟩,trivial⟩⟩
end Go.Pm
/- Part of the proof: Pl1. -/
namespace Go.Pm
theorem Jcf (s:ByteArray):hasWord kwS s=inS kwSpec s:=by
 have h1:∀x∈kwBytes,x∈kwSpecBytes:=by decide
 have h2:∀x∈kwSpecBytes,x∈kwBytes:=by decide
 rw[Bool.eq_iff_iff]
 simp only[hasWord,inS,List.any_eq_true,decide_eq_true_eq]
 constructor
 ·rintro⟨x,hx,rfl⟩
  obtain⟨y,hy,rfl⟩:=List.mem_map.1 hx
  exact⟨_,List.mem_map.2 ⟨y,h1 y hy,rfl⟩,rfl⟩
 ·rintro⟨x,hx,rfl⟩
  obtain⟨y,hy,rfl⟩:=List.mem_map.1 hx
  exact⟨_,List.mem_map.2 ⟨y,h2 y hy,rfl⟩,rfl⟩
theorem J3F (s:ByteArray):nameI s=nameS s:=by
 have hsz:=J04 s
 unfold nameI nameS plainS freshS
 rw[Jcf]
 rcases hb:bs s with _|⟨c,_|⟨d,r⟩⟩
 ·rfl
 ·simp only[hb,List.length_cons,List.length_nil]at hsz
  by_cases h36:(c.toNat:Int)=36
  ·have hl:letterI c=false:=by simp[letterI,h36]
   simp[h36,hl]
  ·by_cases hbig:40<(s.size:Int)
   ·simp[hbig]
   ·simp only[hbig,h36,if_false,List.all_cons,List.all_nil,Bool.or_false,Bool.and_true]
    cases hl:letterI c<;>simp[tailI,hl]
 ·simp only[hb,List.length_cons]at hsz
  by_cases hbig:40<(s.size:Int)
  ·have h10:10<(s.size:Int):=by omega
   simp[hbig,h10]
  ·by_cases h36:(c.toNat:Int)=36
   ·have hl:letterI c=false:=by simp[letterI,h36]
    simp[hbig,h36,hl]
   ·simp only[hbig,h36,if_false,List.all_cons]
    cases hl:letterI c<;>simp[tailI,hl,h36]
def opOK (x:Itm):Prop:=1≤x.op∧x.op≤24
theorem Jak (x:Itm):itemI x=(itemS x&&(!decide (x.op=25))&&decide (1≤x.op∧x.op≤24)):=by
 unfold itemI itemS nmI
 rw[J3F]
 have hns:x.name=⟨#[]⟩→nameS x.name=false:=fun h=>by rw[h];rfl
 grind
end Go.Pm
/- Part of the proof: Pl2. -/
namespace Go.Pm
def postG:Int→List Itm→Int→Bool
 |h,[],t=>decide (h=t)
 |h,x::l,t=>if h<arityI x.op then false else postG (h+(1-arityI x.op)) l t
theorem J5n (l:List Itm):∀h,postI h l=postG h l 1:=by
 induction l with
 |nil=>intro h;rfl
 |cons x l ih=>intro h;simp only[postI,postG,ih]
theorem J4A (x:Itm) (t:Int):∀(l:List Itm) (h:Int),postG h (l++[x]) t=(postG h l (t+arityI x.op-1)&&decide (1≤t))
 |[],h=>by
  simp only[List.nil_append,postG]
  by_cases h1:h<arityI x.op
  ·rw[if_pos h1]
   by_cases h2:h=t+arityI x.op-1
   ·simp only[h2,decide_true,Bool.true_and]
    symm;rw[decide_eq_false_iff_not];omega
   ·simp[h2]
  ·rw[if_neg h1,Bool.eq_iff_iff]
   simp only[decide_eq_true_eq,Bool.and_eq_true]
   constructor
   ·intro h2;omega
   ·intro h2;omega
 |y::l,h=>by
  simp only[List.cons_append,postG]
  split
  ·rfl
  ·exact J4A x t l _
theorem J58:∀(l:List Itm) (h t:Int),l≠[]→postG h l t=true→1≤t
 |[],h,t,hl,_=>absurd rfl hl
 |[x],h,t,_,hp=>by
  simp only[postG]at hp
  split at hp
  ·cases hp
  ·simp only[decide_eq_true_eq]at hp;omega
 |x::y::l,h,t,_,hp=>by
  simp only[postG]at hp
  split at hp
  ·cases hp
  ·exact J58 (y::l) _ t (by simp) (by simpa only[postG]using hp)
theorem J9K {op:Int} (h:1≤op∧op≤25):sarityI op=arityI op:=by unfold sarityI arityI;grind
theorem J2p (l:List Itm) (hall:∀x∈l,1≤x.op∧x.op≤25):∀(n:Nat) (need:Int),n≤l.length→1≤need→(beginS l n need=0↔postG 0 (l.take n) need=true)
 |0,need,_,hn=>by
  simp only[beginS,List.take_zero,postG,decide_eq_true_eq]
  rw[if_neg (by omega)]
  omega
 |n+1,need,hl,hn=>by
  have hlt:n<l.length:=by omega
  have hx:l[n]? = some l[n]:=by simp[hlt]
  have hop:=hall l[n] (List.getElem_mem hlt)
  have har:=J34 l[n].op
  simp only[beginS]
  rw[if_neg (by omega),hx]
  simp only
  rw[J9K hop,if_neg (by omega),List.take_add_one,hx]
  simp only[Option.toList_some]
  rw[J4A]
  simp only[Bool.and_eq_true,decide_eq_true_eq,hn,and_true]
  by_cases h1:1≤need+arityI l[n].op-1
  ·exact J2p l hall n _ (by omega) h1
  ·have h0:need+arityI l[n].op-1=0:=by omega
   rw[h0]
   cases n with
   |zero=>simp[beginS,postG]
   |succ m=>
    simp only[beginS]
    rw[if_pos (by omega)]
    constructor
    ·intro h;omega
    ·intro h
     have:=J58 _ _ _ (by intro he;have:=congrArg List.length he;simp only[List.length_take,List.length_nil]at this;omega) h
     omega
theorem J5o (l:List Itm):∀(n:Nat) (need:Int),beginS l n need=0→∀j x,j<n→l[j]? = some x→0≤sarityI x.op
 |0,need,_,j,x,hj,_=>by omega
 |n+1,need,h,j,x,hj,hx=>by
  simp only[beginS]at h
  split at h
  ·omega
  ·split at h
   ·omega
   ·rename_i y hy
    split at h
    ·omega
    ·rename_i hs
     by_cases hjn:j=n
     ·subst hjn;rw[hy]at hx;cases hx;omega
     ·exact J5o l n _ h j x (by omega) hx
end Go.Pm
