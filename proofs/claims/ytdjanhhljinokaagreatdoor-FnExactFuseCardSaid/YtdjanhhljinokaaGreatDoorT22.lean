/- Part of the proof: Ms2. -/
import Derived.Test.YtdjanhhljinokaaGreatDoorT21
import Derived.Test.YtdjanhhljinokaaGreatDoorT13
import Derived.Test.YtdjanhhljinokaaGreatDoorT15
import Derived.Test.YtdjanhhljinokaaGreatDoorT19
import Derived.Test.YtdjanhhljinokaaGreatDoorT10
set_option linter.unusedVariables false
set_option linter.unusedSimpArgs false
namespace Go.Pm
attribute [local irreducible] AR Ok inBlock andThen endQ aoper
set_option maxHeartbeats 1000000
open Go.Proofs
def placeS (s:ByteArray):Nat→List ByteArray→Int
 |_,[]=>-1
 |i,x::l=>if x=s then(i:Int)else placeS s (i+1) l
theorem J1x (l:List ByteArray) (s:ByteArray) (hl:l.length≤1048576):PFun X 88 [.d (.im (l.map eStr)),vs s] (vi (placeS s 0 l)):=by
 refine Jj Tryz.func88 rfl (by decide) Tryz.ntmps88 Tryz.results88 (by simp) rfl rfl ?_
 repeat' first|refine Z1 ?_|refine Z2 ?_|refine Z5 ?_|refine Zd ?_|refine Zo ?_|refine J5 ?_|refine J4 ?_
 refine Jo (ι:=Nat) (fun x=>envL [(1,vs s),(7,.d (.im (l.map eStr))),(8,vi l.length),(9,vi x)]) (fun x=>stL []) (fun x=>x≤l.length∧placeS s x (l.drop x)=placeS s 0 l) (fun x=>l.length-x) 0 (⟨Nat.zero_le _,rfl⟩) (Jg rfl ⟨.refl _,.refl _,.refl _,.refl _,trivial⟩ trivial) (fun _=>Nat.le_refl 0) ?_
 rintro k ⟨i1,i2⟩
 rcases hx:l[k]? with _|x
 ·have hle:=Jk hx
  have ek:decide ((k:Int)<(l.length:Int))=false:=J1 (by omega)
  rw[Jm hx]at i2
  repeat' first|refine Z1 ?_|refine Z2 ?_|refine Zo ?_|refine J5 ?_|refine Zq ?_|refine Jf ?_|refine J9 ?_|refine J3 ?_|refine Jb ?_|refine Zv ?_|refine Zt ?_
  exact Jw i2
 obtain⟨hd,hlt⟩:=Jc hx
 have ek:decide ((k:Int)<(l.length:Int))=true:=J0 (by omega)
 rw[hd]at i2
 simp only[placeS]at i2
 by_cases h:x=s
 ·have e1:decide (x=s)=true:=J0 h
  rw[if_pos h]at i2
  repeat' first|refine Z1 ?_|refine Z2 ?_|refine Z5 ?_|refine Ze ?_|refine Zo ?_|refine J5 ?_|refine Zp ?_|refine J4 ?_|refine J7 ?_|refine J9 ?_|refine J3 ?_|refine J8 ?_|refine Ja ?_|refine Zt ?_
  exact Jw i2
 ·have e1:decide (x=s)=false:=J1 h
  rw[if_neg h]at i2
  repeat' first|refine Z1 ?_|refine Z2 ?_|refine Z5 ?_|refine Ze ?_|refine Zf ?_|refine Zo ?_|refine J5 ?_|refine Jd ?_|refine Zp ?_|refine Zq ?_|refine J4 ?_|refine J7 ?_|refine J3 ?_|refine J6 ?_
  exact⟨k+1,⟨hlt,i2⟩,by(try simp only);omega,Jh (Nat.zero_le _) ⟨⟨rfl,rfl⟩,⟨rfl,rfl⟩,⟨rfl,rfl⟩,⟨rfl,rfl⟩,trivial⟩ trivial⟩
def setS (c:Cls) (x:ByteArray):Bool:=decide ((c.ins.length:Int)≤placeS x 0 (nmsC c))
theorem J6k {c:Cls} (hw:wCls c≤1048576):(nmsC c).length≤1048576:=by have:=J1G hw;rw[J3X];omega
theorem J2V (c:Cls) (x:ByteArray) (hw:wCls c≤1048576):PFun X 167 [.agg ((eCls c).map .d),vs x] (vb (setS c x)):=by
 have hl:=J6k hw
 refine Jj Tryz.func167 rfl (by decide) Tryz.ntmps167 Tryz.results167 (by simp) rfl rfl ?_
 repeat' first|refine Z1 ?_|refine Z2 ?_|refine Zw ?_|refine Zx ?_|refine Zz (Zc (J0X c hw) ⟨rfl,rfl⟩) ?_|refine Zz (Zc (J1x (nmsC c) x hl) ⟨rfl,rfl⟩) ?_|refine Zz (Zd ⟨rfl,rfl⟩) ?_|refine Zo ?_|refine J5 ?_|refine Jy Jr (by decide +kernel) ?_|refine J9 ?_|refine Zt ?_
 rfl
def itmS (c:Cls) (t:Itm):Bool:=if(20<t.op∧t.op≠25)∨(t.op=3∧inS (nmsC c) t.name=false)∨(t.op=25∧(t.val<0∨(c.mems.length:Int)≤t.val))then false else true
def mcodeS (c:Cls) (l:List Itm):Bool:=codeS l 6000&&l.all (itmS c)
theorem J2t (c:Cls) (l:List Itm) (hw:wCls c≤1048576) (hl:l.length≤1048576):PFun X 168 [.agg ((eCls c).map .d),.d (.im (l.map eItm))] (vb (mcodeS c l)):=by
 have hn:=J6k hw
 refine Jj Tryz.func168 rfl (by decide) Tryz.ntmps168 Tryz.results168 (by simp) rfl rfl ?_
 cases hc:codeS l 6000 with
 |false=>
  have e1:(!codeS l 6000)=true:=by rw[hc];rfl
  repeat' first|refine Z1 ?_|refine Z2 ?_|refine Z5 ?_|refine Zc (J6z l 6000 hl) ?_|refine Zo ?_|refine J5 ?_|refine Zp ?_|refine J9 ?_|refine J8 ?_|refine Zt ?_
  exact Ji (by rw[mcodeS,hc];rfl)
 |true=>
 have e1:(!codeS l 6000)=false:=by rw[hc];rfl
 have hm:l.all (itmS c)=mcodeS c l:=by rw[mcodeS,hc];rfl
 repeat' first|refine Z1 ?_|refine Z2 ?_|refine Z5 ?_|refine Zc (J6z l 6000 hl) ?_|refine Zd ?_|refine Zo ?_|refine J5 ?_|refine Zq ?_|refine J4 ?_|refine J7 ?_|refine J3 ?_
 refine Jo (ι:=Nat) (fun x=>envL [(1,.d (.im (l.map eItm))),(2,.ref 0 0),(4,vb false),(10,.d (.im (l.map eItm))),(11,vi l.length),(12,vi x)]) (fun x=>stL [some (.var ((eCls c).map .d))]) (fun x=>x≤l.length∧(l.drop x).all (itmS c)=mcodeS c l) (fun x=>l.length-x) 0 (⟨Nat.zero_le _,hm⟩) (Jg rfl ⟨.refl _,.refl _,.refl _,.refl _,.refl _,.refl _,trivial⟩ ⟨⟨rfl,_,rfl,rfl,fun _ _ _=>.refl _⟩,trivial⟩) (fun _=>Nat.le_refl 1) ?_
 rintro k ⟨i1,i2⟩
 rcases hx:l[k]? with _|t
 ·have hle:=Jk hx
  have ek:decide ((k:Int)<(l.length:Int))=false:=J1 (by omega)
  rw[Jm hx]at i2
  repeat' first|refine Z1 ?_|refine Z2 ?_|refine Zo ?_|refine J5 ?_|refine Zq ?_|refine Jf ?_|refine J9 ?_|refine J3 ?_|refine Jb ?_|refine Zv ?_|refine Zt ?_
  exact Ji i2
 obtain⟨hd,hlt⟩:=Jc hx
 have ek:decide ((k:Int)<(l.length:Int))=true:=J0 (by omega)
 rw[hd,List.all_cons]at i2
 have fin:itmS c t=false→false=mcodeS c l:=fun h=>by rw[←i2,h];rfl
 by_cases h1:20<t.op∧t.op≠25
 ·have d1:decide (20<t.op)=true:=J0 h1.1
  have d2:decide (t.op≠25)=true:=J0 h1.2
  have hf:=fin (by simp only[itmS,h1,true_or,if_true,and_self,ne_eq,not_false_eq_true])
  repeat' first|refine Z1 ?_|refine Z2 ?_|refine Z5 ?_|refine Z7 ?_|refine Ze ?_|refine Zh ?_|refine Zi ?_|refine Zl ?_|refine Zo ?_|refine J5 ?_|refine Zp ?_|refine J4 ?_|refine J7 ?_|refine J9 ?_|refine J3 ?_|refine J8 ?_|refine Ja ?_|refine Zt ?_
  exact Ji hf
 have go:∀Q:Prop,(decide (20<t.op)=false→Q)→(decide (20<t.op)=true→decide (t.op≠25)=false→Q)→Q:=by
  intro Q a b
  by_cases h:20<t.op
  ·exact b (J0 h) (J1 fun g=>h1 ⟨h,g⟩)
  ·exact a (J1 h)
 by_cases h2:t.op=3∧inS (nmsC c) t.name=false
 ·have d3:decide (t.op=3)=true:=J0 h2.1
  have d0:decide (20<t.op)=false:=J1 (by omega)
  have d4:(!inS (nmsC c) t.name)=true:=by rw[h2.2];rfl
  have hf:=fin (by unfold itmS;rw[if_pos (.inr (.inl h2))])
  repeat' first|refine Z1 ?_|refine Z2 ?_|refine Z5 ?_|refine Z8 ?_|refine Ze ?_|refine Zm ?_|refine Zw ?_|refine Zx ?_|refine Ua ?_|refine Zz (Zl ⟨rfl,rfl⟩) ?_|refine Ue (Zc (J0X c hw) ⟨rfl,rfl⟩) ?_|refine Ue (Zc (J37 (nmsC c) t.name hn) ⟨rfl,rfl⟩) ?_|refine Zo ?_|refine J5 ?_|refine Jy Jr (by decide +kernel) ?_|refine Zp ?_|refine Zq ?_|refine J4 ?_|refine J7 ?_|refine J9 ?_|refine J3 ?_|refine J8 ?_|refine Ja ?_|refine Zt ?_
  exact Ji hf
 by_cases h3:t.op=25∧(t.val<0∨(c.mems.length:Int)≤t.val)
 ·have d3:decide (t.op=3)=false:=J1 (by omega)
  have d0:decide (20<t.op)=true:=J0 (by omega)
  have d1:decide (t.op≠25)=false:=J1 (fun h=>h h3.1)
  have d4:decide (t.op=25)=true:=J0 h3.1
  have hf:=fin (by unfold itmS;rw[if_pos (.inr (.inr h3))])
  by_cases h4:t.val<0
  ·have d5:decide (t.val<0)=true:=J0 h4
   repeat' first|refine Z1 ?_|refine Z2 ?_|refine Z5 ?_|refine Z7 ?_|refine Z9 ?_|refine Ze ?_|refine Zh ?_|refine Zi ?_|refine Zl ?_|refine Zw ?_|refine Zx ?_|refine Ub ?_|refine Zz (Zm ⟨rfl,rfl⟩) ?_|refine Zo ?_|refine J5 ?_|refine Jy Jr (by decide +kernel) ?_|refine Zp ?_|refine Zq ?_|refine J4 ?_|refine J7 ?_|refine J9 ?_|refine J3 ?_|refine J8 ?_|refine Ja ?_|refine Zt ?_
   exact Ji hf
  ·have d5:decide (t.val<0)=false:=J1 h4
   have d6:decide ((c.mems.length:Int)≤t.val)=true:=J0 (by omega)
   repeat' first|refine Z1 ?_|refine Z2 ?_|refine Z5 ?_|refine Z7 ?_|refine Zd ?_|refine Ze ?_|refine Zh ?_|refine Zi ?_|refine Zl ?_|refine Zm ?_|refine Zw ?_|refine Zx ?_|refine Ub ?_|refine Zz (Zm ⟨rfl,rfl⟩) ?_|refine Zo ?_|refine J5 ?_|refine Jy Jr (by decide +kernel) ?_|refine Zp ?_|refine Zq ?_|refine J4 ?_|refine J7 ?_|refine J9 ?_|refine J3 ?_|refine J8 ?_|refine Ja ?_|refine Zt ?_
   exact Ji hf
 have hg:(l.drop (k+1)).all (itmS c)=mcodeS c l:=by
  rw[←i2,show itmS c t=true by unfold itmS;rw[if_neg (fun h=>h.elim h1 (fun h=>h.elim h2 h3))]];rfl
 by_cases o3:t.op=3
 ·have d3:decide (t.op=3)=true:=J0 o3
  have d0:decide (20<t.op)=false:=J1 (by omega)
  have d4:(!inS (nmsC c) t.name)=false:=by cases hq:inS (nmsC c) t.name with|true=>rfl|false=>exact absurd ⟨o3,hq⟩ h2
  have d7:decide (t.op=25)=false:=J1 (by omega)
  repeat' first|refine Z1 ?_|refine Z2 ?_|refine Z5 ?_|refine Z6 ?_|refine Z8 ?_|refine Ze ?_|refine Zf ?_|refine Zm ?_|refine Zw ?_|refine Zx ?_|refine Ua ?_|refine Zz (Zl ⟨rfl,rfl⟩) ?_|refine Ue (Zc (J0X c hw) ⟨rfl,rfl⟩) ?_|refine Ue (Zc (J37 (nmsC c) t.name hn) ⟨rfl,rfl⟩) ?_|refine Zo ?_|refine J5 ?_|refine Jd ?_|refine Jy Jr (by decide +kernel) ?_|refine Zp ?_|refine Zq ?_|refine J4 ?_|refine J7 ?_|refine J3 ?_|refine J6 ?_
  exact⟨k+1,⟨hlt,hg⟩,by(try simp only);omega,Jh (Nat.le_of_ble_eq_true rfl) ⟨⟨rfl,rfl⟩,⟨rfl,rfl⟩,⟨rfl,rfl⟩,⟨rfl,rfl⟩,⟨rfl,rfl⟩,⟨rfl,rfl⟩,trivial⟩ ⟨⟨rfl,rfl⟩,trivial⟩⟩
 have d3:decide (t.op=3)=false:=J1 o3
 by_cases o25:t.op=25
 ·have d7:decide (t.op=25)=true:=J0 o25
  have d0:decide (20<t.op)=true:=J0 (by omega)
  have d1:decide (t.op≠25)=false:=J1 (fun h=>h o25)
  have d5:decide (t.val<0)=false:=J1 (fun h=>h3 ⟨o25,.inl h⟩)
  have d6:decide ((c.mems.length:Int)≤t.val)=false:=J1 (fun h=>h3 ⟨o25,.inr h⟩)
  repeat' first|refine Z1 ?_|refine Z2 ?_|refine Z5 ?_|refine Z7 ?_|refine Zd ?_|refine Ze ?_|refine Zf ?_|refine Zh ?_|refine Zi ?_|refine Zl ?_|refine Zm ?_|refine Zw ?_|refine Zx ?_|refine Ub ?_|refine Zz (Zm ⟨rfl,rfl⟩) ?_|refine Zo ?_|refine J5 ?_|refine Jd ?_|refine Jy Jr (by decide +kernel) ?_|refine Zp ?_|refine Zq ?_|refine J4 ?_|refine J7 ?_|refine J3 ?_|refine J6 ?_
  exact⟨k+1,⟨hlt,hg⟩,by(try simp only);omega,Jh (Nat.le_of_ble_eq_true rfl) ⟨⟨rfl,rfl⟩,⟨rfl,rfl⟩,⟨rfl,rfl⟩,⟨rfl,rfl⟩,⟨rfl,rfl⟩,⟨rfl,rfl⟩,trivial⟩ ⟨⟨rfl,rfl⟩,trivial⟩⟩
 ·have d7:decide (t.op=25)=false:=J1 o25
  have d0:decide (20<t.op)=false:=J1 (fun h=>h1 ⟨h,o25⟩)
  repeat' first|refine Z1 ?_|refine Z2 ?_|refine Z5 ?_|refine Z6 ?_|refine Z8 ?_|refine Ze ?_|refine Zf ?_|refine Zm ?_|refine Zw ?_|refine Zx ?_|refine Ub ?_|refine Zz (Zm ⟨rfl,rfl⟩) ?_|refine Zo ?_|refine J5 ?_|refine Jd ?_|refine Jy Jr (by decide +kernel) ?_|refine Zp ?_|refine Zq ?_|refine J4 ?_|refine J7 ?_|refine J3 ?_|refine J6 ?_
  exact⟨k+1,⟨hlt,hg⟩,by(try simp only);omega,Jh (Nat.le_of_ble_eq_true rfl) ⟨⟨rfl,rfl⟩,⟨rfl,rfl⟩,⟨rfl,rfl⟩,⟨rfl,rfl⟩,⟨rfl,rfl⟩,⟨rfl,rfl⟩,trivial⟩ ⟨⟨rfl,rfl⟩,trivial⟩⟩
def writesS (s:Sm) (x:ByteArray):Bool:=(decide (s.kind=1)&&decide (s.name=x))||(decide (s.kind=3)&&inS s.outs x)
theorem J7D (s:Sm) (x:ByteArray) (hw:wSm s≤1048576):PFun X 131 [.agg ((eSm s).map .d),vs x] (vb (writesS s x)):=by
 have hl:s.outs.length≤1048576:=by simp only[wSm,wL]at hw;omega
 refine Jj Tryz.func131 rfl (by decide) Tryz.ntmps131 Tryz.results131 (by simp) rfl rfl ?_
 repeat' first|refine Z1 ?_|refine Z2 ?_|refine Z5 ?_|refine Z6 ?_|refine Z7 ?_|refine Z8 ?_|refine Z9 ?_|refine Za (fun hc=>?_) (fun hc=>?_)|refine Zb (fun hc=>?_) (fun hc=>?_)|refine Zc (J37 s.outs x hl) ?_|refine Zh ?_|refine Zi ?_|refine Zl ?_|refine Zm ?_|refine Zo ?_|refine J9 ?_|refine Zt ?_
 all_goals (refine Ji ?_;unfold writesS;grind)
def wrapS (v:Int):Int:=IntKind.i64.wrap (IntKind.i32.wrap v)
theorem J73 (v:Int):PFun X 66 [vi v] (vi (wrapS v)):=by
 refine Jj Tryz.func66 rfl (by decide) Tryz.ntmps66 Tryz.results66 (by simp) rfl rfl ?_
 repeat' first|refine Z1 ?_|refine Z2 ?_|refine Z5 ?_|refine Ycv ?_|refine Zo ?_|refine J9 ?_|refine Zt ?_
 rfl
end Go.Pm
/- Part of the proof: Ms3. -/
namespace Go.Pm
attribute [local irreducible] AR Ok inBlock andThen endQ aoper
set_option maxHeartbeats 1000000
open Go.Proofs
def tupI (p:Int×Int):AV:=.tup [vi p.1,vi p.2]
theorem J4v {a b:Int} {p:Int×Int} (h:(a,b)=p):AEnd.ret (.tup [vi a,vi b])=AEnd.ret (tupI p):=by rw[←h];rfl
theorem J1w (l:List Sm) (i:Nat) (hi:i≤l.length) (hl:l.length≤1048576):PFun X 81 [.d (.im (l.map eSm)),vi i] (tupI (partsS l i)):=by
 refine Jj Tryz.func81 rfl (by decide) Tryz.ntmps81 Tryz.results81 (by simp) rfl rfl ?_
 repeat' first|refine Z1 ?_|refine Z2 ?_|refine Zo ?_|refine J5 ?_|refine J4 ?_
 refine Jo (ι:=Nat×Int×Int) (fun x_=>envL [(0,.d (.im (l.map eSm))),(4,vi 0),(5,vi 0),(6,vi x_.2.1),(7,vi x_.2.2),(8,vi x_.1)]) (fun x_=>stL []) (fun x_=>i≤x_.1∧x_.1≤l.length∧-(x_.1:Int)≤x_.2.1∧x_.2.1≤(x_.1:Int)∧partsGo (l.drop x_.1) x_.1 x_.2.1 x_.2.2=partsS l i) (fun x_=>l.length-x_.1) (i,0,-1) (⟨Nat.le_refl _,hi,by simp only;omega,by simp only;omega,rfl⟩) (Jg rfl ⟨.refl _,.refl _,.refl _,.refl _,.refl _,.refl _,trivial⟩ trivial) (fun _=>Nat.le_refl 0) ?_
 rintro⟨j,d,o⟩ ⟨i1,i2,i3,i4,i5⟩
 simp only at i1 i2 i3 i4 i5
 dsimp only
 rcases hx:l[j]? with _|s
 ·have hle:=Jk hx
  have ek:decide ((j:Int)<(l.length:Int))=false:=J1 (by omega)
  rw[Jm hx]at i5
  repeat' first|refine Z1 ?_|refine Z2 ?_|refine Z5 ?_|refine Zd ?_|refine ret2 ?_|refine Zo ?_|refine J5 ?_|refine Zq ?_|refine Jf ?_|refine J9 ?_|refine J3 ?_|refine Jb ?_|refine Zv ?_
  exact J4v i5
 obtain⟨hd,hlt⟩:=Jc hx
 have ek:decide ((j:Int)<(l.length:Int))=true:=J0 (by omega)
 rw[hd]at i5
 simp only[partsGo]at i5
 by_cases k4:s.kind=4
 ·have d4:decide (s.kind=4)=true:=J0 k4
  rw[if_pos k4]at i5
  repeat' first|refine Z1 ?_|refine Z2 ?_|refine Z3 ?_|refine Z5 ?_|refine Zd ?_|refine Ze ?_|refine Zf ?_|refine Zo ?_|refine J5 ?_|refine Jd ?_|refine Zp ?_|refine J4 ?_|refine J7 ?_|refine J3 ?_|refine J6 ?_
  exact⟨(j+1,d+1,o),⟨by simp only;omega,hlt,by simp only;omega,by simp only;omega,i5⟩,by(try simp only);omega,Jh (Nat.zero_le _) ⟨⟨rfl,rfl⟩,⟨rfl,rfl⟩,⟨rfl,rfl⟩,⟨rfl,rfl⟩,⟨rfl,rfl⟩,⟨rfl,rfl⟩,trivial⟩ trivial⟩
 have d4:decide (s.kind=4)=false:=J1 k4
 rw[if_neg k4]at i5
 by_cases k5:s.kind=5
 ·have d5:decide (s.kind=5)=true:=J0 k5
  rw[if_pos k5]at i5
  by_cases h1:d=1
  ·have e1:decide (d=1)=true:=J0 h1
   rw[if_pos h1]at i5
   by_cases h0:0≤o
   ·have e0:decide (0≤o)=true:=J0 h0
    rw[if_pos h0]at i5
    repeat' first|refine Z1 ?_|refine Z2 ?_|refine Z5 ?_|refine Zd ?_|refine Ze ?_|refine ret2 ?_|refine Zo ?_|refine J5 ?_|refine Zp ?_|refine Zq ?_|refine J4 ?_|refine J7 ?_|refine J9 ?_|refine J3 ?_|refine J8 ?_|refine Ja ?_
    exact J4v i5
   ·have e0:decide (0≤o)=false:=J1 h0
    rw[if_neg h0]at i5
    repeat' first|refine Z1 ?_|refine Z2 ?_|refine Z3 ?_|refine Z5 ?_|refine Zd ?_|refine Ze ?_|refine Zf ?_|refine Zo ?_|refine J5 ?_|refine Jd ?_|refine Zp ?_|refine Zq ?_|refine J4 ?_|refine J7 ?_|refine J3 ?_|refine J6 ?_
    exact⟨(j+1,d,(j:Int)),⟨by simp only;omega,hlt,by simp only;omega,by simp only;omega,i5⟩,by(try simp only);omega,Jh (Nat.zero_le _) ⟨⟨rfl,rfl⟩,⟨rfl,rfl⟩,⟨rfl,rfl⟩,⟨rfl,rfl⟩,⟨rfl,rfl⟩,⟨rfl,rfl⟩,trivial⟩ trivial⟩
  ·have e1:decide (d=1)=false:=J1 h1
   rw[if_neg h1]at i5
   repeat' first|refine Z1 ?_|refine Z2 ?_|refine Z5 ?_|refine Zd ?_|refine Ze ?_|refine Zf ?_|refine Zo ?_|refine J5 ?_|refine Jd ?_|refine Zp ?_|refine Zq ?_|refine J4 ?_|refine J7 ?_|refine J3 ?_|refine J6 ?_
   exact⟨(j+1,d,o),⟨by simp only;omega,hlt,by simp only;omega,by simp only;omega,i5⟩,by(try simp only);omega,Jh (Nat.zero_le _) ⟨⟨rfl,rfl⟩,⟨rfl,rfl⟩,⟨rfl,rfl⟩,⟨rfl,rfl⟩,⟨rfl,rfl⟩,⟨rfl,rfl⟩,trivial⟩ trivial⟩
 have d5:decide (s.kind=5)=false:=J1 k5
 rw[if_neg k5]at i5
 by_cases k6:s.kind=6
 ·have d6:decide (s.kind=6)=true:=J0 k6
  rw[if_pos k6]at i5
  by_cases h1:d-1=0
  ·have e1:decide (d-1=0)=true:=J0 h1
   rw[if_pos h1]at i5
   repeat' first|refine Z1 ?_|refine Z2 ?_|refine Z5 ?_|refine Zd ?_|refine Ze ?_|refine Zg ?_|refine ret2 ?_|refine Zo ?_|refine J5 ?_|refine Zp ?_|refine Zq ?_|refine J4 ?_|refine J7 ?_|refine J9 ?_|refine J3 ?_|refine J8 ?_|refine Ja ?_
   exact J4v i5
  ·have e1:decide (d-1=0)=false:=J1 h1
   rw[if_neg h1]at i5
   repeat' first|refine Z1 ?_|refine Z2 ?_|refine Z5 ?_|refine Zd ?_|refine Ze ?_|refine Zf ?_|refine Zg ?_|refine Zo ?_|refine J5 ?_|refine Jd ?_|refine Zp ?_|refine Zq ?_|refine J4 ?_|refine J7 ?_|refine J3 ?_|refine J6 ?_
   exact⟨(j+1,d-1,o),⟨by simp only;omega,hlt,by simp only;omega,by simp only;omega,i5⟩,by(try simp only);omega,Jh (Nat.zero_le _) ⟨⟨rfl,rfl⟩,⟨rfl,rfl⟩,⟨rfl,rfl⟩,⟨rfl,rfl⟩,⟨rfl,rfl⟩,⟨rfl,rfl⟩,trivial⟩ trivial⟩
 have d6:decide (s.kind=6)=false:=J1 k6
 rw[if_neg k6]at i5
 repeat' first|refine Z1 ?_|refine Z2 ?_|refine Z5 ?_|refine Zd ?_|refine Ze ?_|refine Zf ?_|refine Zo ?_|refine J5 ?_|refine Jd ?_|refine Zp ?_|refine Zq ?_|refine J4 ?_|refine J7 ?_|refine J3 ?_|refine J6 ?_
 exact⟨(j+1,d,o),⟨by simp only;omega,hlt,by simp only;omega,by simp only;omega,i5⟩,by(try simp only);omega,Jh (Nat.zero_le _) ⟨⟨rfl,rfl⟩,⟨rfl,rfl⟩,⟨rfl,rfl⟩,⟨rfl,rfl⟩,⟨rfl,rfl⟩,⟨rfl,rfl⟩,trivial⟩ trivial⟩
end Go.Pm
/- Part of the proof: Ms4. -/
namespace Go.Pm
attribute [local irreducible] AR Ok inBlock andThen endQ aoper
set_option maxHeartbeats 1000000
open Go.Proofs
theorem J54 {l y n r2:List Sm} {i:Nat} {s e f:Sm} (hd:l.drop i=s::(y++e::(n++f::r2))):
  i+1+y.length+1+n.length<l.length∧(l.drop (i+1)).take (i+1+y.length-(i+1))=y∧(l.drop (i+1+y.length+1)).take (i+1+y.length+1+n.length-(i+1+y.length+1))=n∧l.drop (i+1+y.length+1+n.length+1)=r2:=by
 have h1:l.drop (i+1)=y++e::(n++f::r2):=by rw[←List.drop_drop,hd];rfl
 have h2:l.drop (i+1+y.length+1)=n++f::r2:=by rw[show i+1+y.length+1=i+1+(y.length+1) by omega,←List.drop_drop,h1,←List.drop_drop,List.drop_left];rfl
 have h3:l.drop (i+1+y.length+1+n.length+1)=r2:=by rw[show i+1+y.length+1+n.length+1=i+1+y.length+1+(n.length+1) by omega,←List.drop_drop,h2,←List.drop_drop,List.drop_left];rfl
 refine⟨?_,?_,?_,h3⟩
 ·have:=congrArg List.length hd
  simp only[List.length_drop,List.length_cons,List.length_append]at this
  omega
 ·rw[h1,show i+1+y.length-(i+1)=y.length by omega,List.take_left]
 ·rw[h2,show i+1+y.length+1+n.length-(i+1+y.length+1)=n.length by omega,List.take_left]
set_option maxHeartbeats 4000000 in
theorem J9U:∀(N:Nat) (l:List Sm) (d:Int),l.length=N→l.length≤1048576→0≤d→d+l.length≤2097152→PFun X 130 [.d (.im (l.map eSm)),vi d] (vb (nestV l d)):=by
 intro N
 induction N using Nat.strongRecOn with
 |_ N ih=>
  intro l d hN hl hd0 hd1
  refine Jj Tryz.func130 rfl (by decide) Tryz.ntmps130 Tryz.results130 (by simp) rfl rfl ?_
  repeat' first|refine Z1 ?_|refine Z2 ?_|refine Zo ?_|refine J5 ?_|refine J4 ?_
  refine Jo (ι:=Nat) (fun x=>envL [(0,.d (.im (l.map eSm))),(1,vi d),(4,vb false),(5,vi x)]) (fun x=>stL []) (fun x=>x≤l.length∧nestV (l.drop x) d=nestV l d) (fun x=>l.length-x) 0 (⟨Nat.zero_le _,rfl⟩) (Jg rfl ⟨.refl _,.refl _,.refl _,.refl _,trivial⟩ trivial) (fun _=>Nat.le_refl 0) ?_
  rintro i ⟨i1,i2⟩
  rcases hx:l[i]? with _|s
  ·have hle:=Jk hx
   have ek:decide ((i:Int)<(l.length:Int))=false:=J1 (by omega)
   rw[Jm hx,J8L]at i2
   repeat' first|refine Z1 ?_|refine Z2 ?_|refine Z5 ?_|refine Zd ?_|refine Zo ?_|refine J5 ?_|refine Zq ?_|refine Jf ?_|refine J9 ?_|refine J3 ?_|refine Jb ?_|refine Zv ?_|refine Zt ?_
   exact Ji i2
  obtain⟨hd,hlt⟩:=Jc hx
  have ek:decide ((i:Int)<(l.length:Int))=true:=J0 (by omega)
  have fin:nestV (l.drop i) d=false→false=nestV l d:=fun h=>by rw[←i2,h]
  by_cases k5:s.kind=5
  ·have d5:decide (s.kind=5)=true:=J0 k5
   have hf:=fin (by rw[hd];exact J5e (.inl k5) d)
   repeat' first|refine Z1 ?_|refine Z2 ?_|refine Z5 ?_|refine Zd ?_|refine Ze ?_|refine Zo ?_|refine J5 ?_|refine Zp ?_|refine J4 ?_|refine J7 ?_|refine J9 ?_|refine J3 ?_|refine J8 ?_|refine Ja ?_|refine Zt ?_
   exact Ji hf
  have d5:decide (s.kind=5)=false:=J1 k5
  by_cases k6:s.kind=6
  ·have d6:decide (s.kind=6)=true:=J0 k6
   have hf:=fin (by rw[hd];exact J5e (.inr k6) d)
   repeat' first|refine Z1 ?_|refine Z2 ?_|refine Z5 ?_|refine Zd ?_|refine Ze ?_|refine Zo ?_|refine J5 ?_|refine Jd ?_|refine Zp ?_|refine Zq ?_|refine J4 ?_|refine J7 ?_|refine J9 ?_|refine J3 ?_|refine J8 ?_|refine Ja ?_|refine Zt ?_
   exact Ji hf
  have d6:decide (s.kind=6)=false:=J1 k6
  by_cases k4:s.kind=4
  ·have d4:decide (s.kind=4)=true:=J0 k4
   have hps:=J1w l i i1 hl
   rcases hp:partsS l i with⟨O,E⟩
   rw[hp]at hps
   unfold partsS at hp
   rw[hd]at hp
   by_cases hO:O<0
   ·have b1:decide (O<0)=true:=J0 hO
    have hf:=fin (by rw[hd];exact J4m k4 hp (.inl hO) d)
    repeat' first|refine Z1 ?_|refine Z2 ?_|refine Z5 ?_|refine Z9 ?_|refine Zc (hps) ?_|refine Zd ?_|refine Ze ?_|refine Zl ?_|refine Zo ?_|refine J5 ?_|refine Jd ?_|refine Zp ?_|refine Zq ?_|refine J4 ?_|refine J7 ?_|refine J9 ?_|refine J3 ?_|refine J8 ?_|refine Ja ?_|refine Zt ?_
    exact Ji hf
   have b1:decide (O<0)=false:=J1 hO
   by_cases hE:E<0
   ·have b2:decide (E<0)=true:=J0 hE
    have hf:=fin (by rw[hd];exact J4m k4 hp (.inr hE) d)
    repeat' first|refine Z1 ?_|refine Z2 ?_|refine Z5 ?_|refine Z7 ?_|refine Zc (hps) ?_|refine Zd ?_|refine Ze ?_|refine Zh ?_|refine Zi ?_|refine Zm ?_|refine Zo ?_|refine J5 ?_|refine Jd ?_|refine Zp ?_|refine Zq ?_|refine J4 ?_|refine J7 ?_|refine J9 ?_|refine J3 ?_|refine J8 ?_|refine Ja ?_|refine Zt ?_
    exact Ji hf
   have b2:decide (E<0)=false:=J1 hE
   obtain⟨y,e,n,f,r2,hr,h5,h6,hO',hE'⟩:=JbJ k4 hp (by omega) (by omega)
   subst hO' hE'
   rw[hr]at hd hp
   obtain⟨c0,c1,c2,c3⟩:=J54 hd
   have hnv:=J9A k4 h5 h6 hp d
   rw[←hd]at hnv
   have key:((0<y.length∨0<n.length)∧20<d+1→false=nestV l d)∧(¬((0<y.length∨0<n.length)∧20<d+1)→(nestV y (d+1)&&nestV n (d+1)&&nestV r2 d)=nestV l d):=
    ⟨fun h=>by rw[←i2,hnv,if_pos h],fun h=>by rw[←i2,hnv,if_neg h]⟩
   have hy:=ih y.length (by omega) y (d+1) rfl (by omega) (by omega) (by omega)
   have hn:=ih n.length (by omega) n (d+1) rfl (by omega) (by omega) (by omega)
   have all:∀Q:Prop,((decide (((i:Int)+1)<((i+1+y.length:Nat):Int))=true∨(decide (((i:Int)+1)<((i+1+y.length:Nat):Int))=false∧decide ((((i+1+y.length:Nat):Int)+1)<((i+1+y.length+1+n.length:Nat):Int))=true))→(0<y.length∨0<n.length)→Q)→(decide (((i:Int)+1)<((i+1+y.length:Nat):Int))=false→decide ((((i+1+y.length:Nat):Int)+1)<((i+1+y.length+1+n.length:Nat):Int))=false→¬(0<y.length∨0<n.length)→Q)→Q:=by
    intro Q a b
    by_cases h1:0<y.length
    ·exact a (.inl (J0 (by omega))) (.inl h1)
    ·by_cases h2:0<n.length
     ·exact a (.inr ⟨J1 (by omega),J0 (by omega)⟩) (.inr h2)
     ·exact b (J1 (by omega)) (J1 (by omega)) (by omega)
   have rest:∀{Q:Prop},¬((0<y.length∨0<n.length)∧20<d+1)→((!nestV y (d+1))=true→false=nestV l d→Q)→((!nestV y (d+1))=false→(!nestV n (d+1))=true→false=nestV l d→Q)→((!nestV y (d+1))=false→(!nestV n (d+1))=false→nestV r2 d=nestV l d→Q)→Q:=by
    intro Q h a b c
    have:=key.2 h
    cases h1:nestV y (d+1)with
    |false=>exact a (by rw[h1];rfl) (by rw[←this,h1];rfl)
    |true=>
     cases h2:nestV n (d+1)with
     |false=>exact b (by rw[h1];rfl) (by rw[h2];rfl) (by rw[←this,h1,h2];rfl)
     |true=>exact c (by rw[h1];rfl) (by rw[h2];rfl) (by rw[←this,h1,h2];simp)
   have hbk:nestV (l.drop (i+1+y.length+1+n.length+1)) d=nestV r2 d:=by rw[c3]
   refine all _ (fun hin hpos=>?_) (fun q1 q2 hpos=>?_)
   ·rcases hin with q1|⟨q1,q2⟩
    ·by_cases h20:20<d+1
     ·have q3:decide (20<d+1)=true:=J0 h20
      have hf:=key.1 ⟨hpos,h20⟩
      repeat' first|refine Z1 ?_|refine Z2 ?_|refine Z5 ?_|refine Z7 ?_|refine Z9 ?_|refine Zc (hps) ?_|refine Zd ?_|refine Ze ?_|refine Zf ?_|refine Zh ?_|refine Zi ?_|refine Zl ?_|refine Zo ?_|refine J5 ?_|refine Jd ?_|refine Zp ?_|refine Zq ?_|refine J4 ?_|refine J7 ?_|refine J9 ?_|refine J3 ?_|refine J8 ?_|refine Ja ?_|refine Zt ?_
      exact Ji hf
     have q3:decide (20<d+1)=false:=J1 h20
     refine rest (fun h=>h20 h.2) (fun v1 hf=>?_) (fun v1 v2 hf=>?_) (fun v1 v2 hg=>?_)
     ·
      repeat' first|refine Z1 ?_|refine Z2 ?_|refine Z5 ?_|refine Z7 ?_|refine Z9 ?_|refine Zc (hps) ?_|refine Ysl (e:=eSm) (l:=l) (i+1) (i+1+y.length) y c1 ?_|refine Zc (hy) ?_|refine Zd ?_|refine Ze ?_|refine Zf ?_|refine Zh ?_|refine Zi ?_|refine Zl ?_|refine Zo ?_|refine J5 ?_|refine Jd ?_|refine Zp ?_|refine Zq ?_|refine J4 ?_|refine J7 ?_|refine J9 ?_|refine J3 ?_|refine J8 ?_|refine Ja ?_|refine Zt ?_
      exact Ji hf
     ·
      repeat' first|refine Z1 ?_|refine Z2 ?_|refine Z5 ?_|refine Z7 ?_|refine Z9 ?_|refine Zc (hps) ?_|refine Ysl (e:=eSm) (l:=l) (i+1) (i+1+y.length) y c1 ?_|refine Ysl (e:=eSm) (l:=l) (i+1+y.length+1) (i+1+y.length+1+n.length) n c2 ?_|refine Zc (hy) ?_|refine Zc (hn) ?_|refine Zd ?_|refine Ze ?_|refine Zf ?_|refine Zh ?_|refine Zi ?_|refine Zl ?_|refine Zm ?_|refine Zo ?_|refine J5 ?_|refine Jd ?_|refine Zp ?_|refine Zq ?_|refine J4 ?_|refine J7 ?_|refine J9 ?_|refine J3 ?_|refine J8 ?_|refine Ja ?_|refine Zt ?_
      exact Ji hf
     ·
      repeat' first|refine Z1 ?_|refine Z2 ?_|refine Z3 ?_|refine Z5 ?_|refine Z7 ?_|refine Z9 ?_|refine Zc (hps) ?_|refine Ysl (e:=eSm) (l:=l) (i+1) (i+1+y.length) y c1 ?_|refine Ysl (e:=eSm) (l:=l) (i+1+y.length+1) (i+1+y.length+1+n.length) n c2 ?_|refine Zc (hy) ?_|refine Zc (hn) ?_|refine Zd ?_|refine Ze ?_|refine Zf ?_|refine Zh ?_|refine Zi ?_|refine Zl ?_|refine Zm ?_|refine Zo ?_|refine J5 ?_|refine Jd ?_|refine Zp ?_|refine Zq ?_|refine J4 ?_|refine J7 ?_|refine J3 ?_|refine J6 ?_
      exact⟨i+1+y.length+1+n.length+1,⟨by omega,hbk.trans hg⟩,by(try simp only);omega,Jh (Nat.zero_le _) ⟨⟨rfl,rfl⟩,⟨rfl,rfl⟩,⟨rfl,rfl⟩,⟨rfl,rfl⟩,trivial⟩ trivial⟩
    ·by_cases h20:20<d+1
     ·have q3:decide (20<d+1)=true:=J0 h20
      have hf:=key.1 ⟨hpos,h20⟩
      repeat' first|refine Z1 ?_|refine Z2 ?_|refine Z5 ?_|refine Z7 ?_|refine Zc (hps) ?_|refine Zd ?_|refine Ze ?_|refine Zf ?_|refine Zh ?_|refine Zi ?_|refine Zl ?_|refine Zm ?_|refine Zo ?_|refine J5 ?_|refine Jd ?_|refine Zp ?_|refine Zq ?_|refine J4 ?_|refine J7 ?_|refine J9 ?_|refine J3 ?_|refine J8 ?_|refine Ja ?_|refine Zt ?_
      exact Ji hf
     have q3:decide (20<d+1)=false:=J1 h20
     refine rest (fun h=>h20 h.2) (fun v1 hf=>?_) (fun v1 v2 hf=>?_) (fun v1 v2 hg=>?_)
     ·
      repeat' first|refine Z1 ?_|refine Z2 ?_|refine Z5 ?_|refine Z7 ?_|refine Z9 ?_|refine Zc (hps) ?_|refine Ysl (e:=eSm) (l:=l) (i+1) (i+1+y.length) y c1 ?_|refine Zc (hy) ?_|refine Zd ?_|refine Ze ?_|refine Zf ?_|refine Zh ?_|refine Zi ?_|refine Zl ?_|refine Zm ?_|refine Zo ?_|refine J5 ?_|refine Jd ?_|refine Zp ?_|refine Zq ?_|refine J4 ?_|refine J7 ?_|refine J9 ?_|refine J3 ?_|refine J8 ?_|refine Ja ?_|refine Zt ?_
      exact Ji hf
     ·
      repeat' first|refine Z1 ?_|refine Z2 ?_|refine Z5 ?_|refine Z7 ?_|refine Zc (hps) ?_|refine Ysl (e:=eSm) (l:=l) (i+1) (i+1+y.length) y c1 ?_|refine Ysl (e:=eSm) (l:=l) (i+1+y.length+1) (i+1+y.length+1+n.length) n c2 ?_|refine Zc (hy) ?_|refine Zc (hn) ?_|refine Zd ?_|refine Ze ?_|refine Zf ?_|refine Zh ?_|refine Zi ?_|refine Zl ?_|refine Zm ?_|refine Zo ?_|refine J5 ?_|refine Jd ?_|refine Zp ?_|refine Zq ?_|refine J4 ?_|refine J7 ?_|refine J9 ?_|refine J3 ?_|refine J8 ?_|refine Ja ?_|refine Zt ?_
      exact Ji hf
     ·
      repeat' first|refine Z1 ?_|refine Z2 ?_|refine Z3 ?_|refine Z5 ?_|refine Z7 ?_|refine Zc (hps) ?_|refine Ysl (e:=eSm) (l:=l) (i+1) (i+1+y.length) y c1 ?_|refine Ysl (e:=eSm) (l:=l) (i+1+y.length+1) (i+1+y.length+1+n.length) n c2 ?_|refine Zc (hy) ?_|refine Zc (hn) ?_|refine Zd ?_|refine Ze ?_|refine Zf ?_|refine Zh ?_|refine Zi ?_|refine Zl ?_|refine Zm ?_|refine Zo ?_|refine J5 ?_|refine Jd ?_|refine Zp ?_|refine Zq ?_|refine J4 ?_|refine J7 ?_|refine J3 ?_|refine J6 ?_
      exact⟨i+1+y.length+1+n.length+1,⟨by omega,hbk.trans hg⟩,by(try simp only);omega,Jh (Nat.zero_le _) ⟨⟨rfl,rfl⟩,⟨rfl,rfl⟩,⟨rfl,rfl⟩,⟨rfl,rfl⟩,trivial⟩ trivial⟩
   ·refine rest (fun h=>hpos h.1) (fun v1 hf=>?_) (fun v1 v2 hf=>?_) (fun v1 v2 hg=>?_)
    ·
     repeat' first|refine Z1 ?_|refine Z2 ?_|refine Z5 ?_|refine Z7 ?_|refine Z8 ?_|refine Z9 ?_|refine Zc (hps) ?_|refine Ysl (e:=eSm) (l:=l) (i+1) (i+1+y.length) y c1 ?_|refine Zc (hy) ?_|refine Zd ?_|refine Ze ?_|refine Zf ?_|refine Zh ?_|refine Zi ?_|refine Zl ?_|refine Zm ?_|refine Zo ?_|refine J5 ?_|refine Jd ?_|refine Zp ?_|refine Zq ?_|refine J4 ?_|refine J7 ?_|refine J9 ?_|refine J3 ?_|refine J8 ?_|refine Ja ?_|refine Zt ?_
     exact Ji hf
    ·
     repeat' first|refine Z1 ?_|refine Z2 ?_|refine Z5 ?_|refine Z7 ?_|refine Z8 ?_|refine Zc (hps) ?_|refine Ysl (e:=eSm) (l:=l) (i+1) (i+1+y.length) y c1 ?_|refine Ysl (e:=eSm) (l:=l) (i+1+y.length+1) (i+1+y.length+1+n.length) n c2 ?_|refine Zc (hy) ?_|refine Zc (hn) ?_|refine Zd ?_|refine Ze ?_|refine Zf ?_|refine Zh ?_|refine Zi ?_|refine Zm ?_|refine Zo ?_|refine J5 ?_|refine Jd ?_|refine Zp ?_|refine Zq ?_|refine J4 ?_|refine J7 ?_|refine J9 ?_|refine J3 ?_|refine J8 ?_|refine Ja ?_|refine Zt ?_
     exact Ji hf
    ·
     repeat' first|refine Z1 ?_|refine Z2 ?_|refine Z3 ?_|refine Z5 ?_|refine Z7 ?_|refine Z8 ?_|refine Zc (hps) ?_|refine Ysl (e:=eSm) (l:=l) (i+1) (i+1+y.length) y c1 ?_|refine Ysl (e:=eSm) (l:=l) (i+1+y.length+1) (i+1+y.length+1+n.length) n c2 ?_|refine Zc (hy) ?_|refine Zc (hn) ?_|refine Zd ?_|refine Ze ?_|refine Zf ?_|refine Zh ?_|refine Zi ?_|refine Zm ?_|refine Zo ?_|refine J5 ?_|refine Jd ?_|refine Zp ?_|refine Zq ?_|refine J4 ?_|refine J7 ?_|refine J3 ?_|refine J6 ?_
     exact⟨i+1+y.length+1+n.length+1,⟨by omega,hbk.trans hg⟩,by(try simp only);omega,Jh (Nat.zero_le _) ⟨⟨rfl,rfl⟩,⟨rfl,rfl⟩,⟨rfl,rfl⟩,⟨rfl,rfl⟩,trivial⟩ trivial⟩
  have d4:decide (s.kind=4)=false:=J1 k4
  rw[hd,J7m k4 k5 k6]at i2
  repeat' first|refine Z1 ?_|refine Z2 ?_|refine Z3 ?_|refine Z5 ?_|refine Zd ?_|refine Ze ?_|refine Zf ?_|refine Zo ?_|refine J5 ?_|refine Jd ?_|refine Zp ?_|refine Zq ?_|refine J4 ?_|refine J7 ?_|refine J3 ?_|refine J6 ?_
  exact⟨i+1,⟨hlt,i2⟩,by(try simp only);omega,Jh (Nat.zero_le _) ⟨⟨rfl,rfl⟩,⟨rfl,rfl⟩,⟨rfl,rfl⟩,⟨rfl,rfl⟩,trivial⟩ trivial⟩
end Go.Pm
/- Part of the proof: Ms7. -/
namespace Go.Pm
attribute [local irreducible] AR Ok inBlock andThen endQ aoper
set_option maxHeartbeats 4000000
open Go.Proofs
def bdC (Z:List Int):Prop:=∀z∈Z,0≤z∧z≤20001
def instSum (Z:List Int):Int→List Int→Int
 |n,[]=>n
 |n,g::l=>instSum Z (n+(Z[g.toNat]?).getD 0) l
def cellsGo:List Int→List Cls→List Int
 |Z,[]=>Z
 |Z,c::r=>cellsGo (Z++[min (instSum Z c.mems.length c.insts) 20001]) r
def cellsS (cs:List Cls):List Int:=cellsGo [] cs
theorem J6V {Z:List Int} {v:Int} (h:bdC Z) (h0:0≤v) (h1:v≤20001):bdC (Z++[v]):=by
 intro z hz
 rcases List.mem_append.1 hz with h'|h'
 ·exact h z h'
 ·simp only[List.mem_singleton]at h';subst h';exact⟨h0,h1⟩
theorem J8F (cs:List Cls) (hw:wL wCls cs≤1048576) (hg:∀(k:Nat) (c:Cls),cs[k]? = some c→∀g∈c.insts,0≤g∧g<(k:Int)):PFun X 26 [.agg [.d (.im (cs.map eCls))]] (.d (.im ((cellsS cs).map eNum))):=by
 have hcl:cs.length≤1048576:=by simp only[wL]at hw;omega
 refine Jj Tryz.func26 rfl (by decide) Tryz.ntmps26 Tryz.results26 (by simp) rfl rfl ?_
 repeat' first|refine Z1 ?_|refine Z2 ?_|refine Z5 ?_|refine J39 rfl rfl rfl rfl rfl rfl rfl ?_|refine Zd ?_|refine Zo ?_|refine J5 ?_|refine J4 ?_
 refine J0w (ι:=Nat×List Int) (fun x_=>envL [(1,.ref 0 0),(3,.sl 1 2 0 x_.2.length),(11,.d (.im (cs.map eCls))),(12,vi cs.length),(13,vi x_.1)]) (fun x_=>stL [some (.var [.d (.im (cs.map eCls))]),some (.row 2 3 1 (im2 eNum x_.2)),none]) (fun x_=>x_.1≤cs.length∧x_.2.length=x_.1∧bdC x_.2∧cellsGo x_.2 (cs.drop x_.1)=cellsS cs) (fun x_=>cs.length-x_.1) (0,[]) (⟨Nat.zero_le _,rfl,fun x hx=>by simp at hx,rfl⟩) Turn.refl (JC [(2,1)] rfl rfl rfl ⟨⟨rfl,rfl⟩,⟨rfl,rfl⟩,⟨rfl,rfl⟩,⟨rfl,rfl⟩,⟨rfl,rfl⟩,trivial⟩ ⟨⟨rfl,rfl⟩,⟨Jn rfl (by first|exact Jq _ _ _|rfl),Je rfl,Jl _ _ _⟩,trivial⟩) ?_
 rintro⟨k,Z⟩ ⟨i1,i2,i3,i5⟩
 simp only at i1 i2 i3 i5
 rcases hx:cs[k]? with _|c
 ·have hle:=Jk hx
  have ek:decide ((k:Int)<(cs.length:Int))=false:=J1 (by omega)
  rw[Jm hx]at i5
  have i5:Z=cellsS cs:=i5
  subst i5
  repeat' first|refine Z1 ?_|refine Z2 ?_|refine J0G (e:=eNum) (l:=cellsS cs) rfl 2 rfl rfl rfl ?_|refine Zo ?_|refine J5 ?_|refine Zq ?_|refine Jf ?_|refine J9 ?_|refine J3 ?_|refine Jb ?_|refine Zv ?_|refine Zt ?_
  rfl
 obtain⟨hd,hlt⟩:=Jc hx
 have ek:decide ((k:Int)<(cs.length:Int))=true:=J0 (by omega)
 have hwc:wCls c≤1048576:=by have:=Jz (w:=wCls) (List.mem_of_getElem? hx);simp only[wL]at hw;omega
 have hl:=J1G hwc
 rw[hd]at i5
 simp only[cellsGo]at i5
 repeat' first|refine Z1 ?_|refine Z2 ?_|refine Z5 ?_|refine Zd ?_|refine Ze ?_|refine Zo ?_|refine J5 ?_|refine Zp ?_|refine J4 ?_|refine J7 ?_|refine J3 ?_
 refine Jo (ι:=Nat×Int) (fun x_=>envL [(1,.ref 0 0),(3,.sl 1 2 0 Z.length),(11,.d (.im (cs.map eCls))),(12,vi cs.length),(13,vi k),(6,vi x_.2),(21,.d (.im (c.insts.map eNum))),(22,vi c.insts.length),(23,vi x_.1)]) (fun x_=>stL [some (.var [.d (.im (cs.map eCls))]),some (.row 2 3 1 (im2 eNum Z)),none,none]) (fun x_=>x_.1≤c.insts.length∧0≤x_.2∧x_.2≤1048576+20001*(x_.1:Int)∧instSum Z x_.2 (c.insts.drop x_.1)=instSum Z c.mems.length c.insts) (fun x_=>c.insts.length-x_.1) (0,(c.mems.length:Int)) (⟨Nat.zero_le _,by simp only;omega,by simp only;omega,rfl⟩) (Jg rfl ⟨.refl _,.refl _,.refl _,.refl _,.refl _,.refl _,.refl _,.refl _,.refl _,trivial⟩ ⟨⟨rfl,_,rfl,rfl,fun _ _ _=>.refl _⟩,⟨rfl,_,rfl,rfl,rfl,rfl,rfl⟩,trivial⟩) (fun _=>Nat.le_refl 4) ?_
 rintro⟨m,n⟩ ⟨j1,j2,j3,j4⟩
 simp only at j1 j2 j3 j4
 rcases hy:c.insts[m]? with _|g
 ·have hle:=Jk hy
  have em:decide ((m:Int)<(c.insts.length:Int))=false:=J1 (by omega)
  rw[Jm hy]at j4
  have j4:n=instSum Z c.mems.length c.insts:=j4
  rw[←j4]at i5
  by_cases hb:20000<n
  ·have eb:decide (20000<n)=true:=J0 hb
   rw[show min n 20001=20001 by omega]at i5
   repeat' first|refine Z1 ?_|refine Z2 ?_|refine Z3 ?_|refine Z4 ?_|refine Z5 ?_|refine Yl (e:=eNum) (l:=Z) [(20001:Int)] ?_|refine Zf ?_|refine Zo ?_|refine J5 ?_|refine Jd ?_|refine Zp ?_|refine Zq ?_|refine Jf ?_|refine J3 ?_|refine Jb ?_|refine Zv ?_|refine J6 ?_
   exact⟨(k+1,Z++[20001]),⟨hlt,by simp[i2],J6V i3 (by omega) (by omega),i5⟩,by(try simp only);omega,JC [(2,5)] rfl rfl rfl ⟨⟨rfl,rfl⟩,⟨rfl,rfl⟩,⟨rfl,rfl⟩,⟨rfl,rfl⟩,⟨rfl,rfl⟩,trivial⟩ ⟨⟨rfl,rfl⟩,⟨Jn rfl (by first|exact Jq _ _ _|rfl),Je rfl,Jl _ _ _⟩,trivial⟩⟩
  ·have eb:decide (20000<n)=false:=J1 hb
   rw[show min n 20001=n by omega]at i5
   repeat' first|refine Z1 ?_|refine Z2 ?_|refine Z3 ?_|refine Z4 ?_|refine Z5 ?_|refine Yl (e:=eNum) (l:=Z) [n] ?_|refine Zf ?_|refine Zo ?_|refine J5 ?_|refine Jd ?_|refine Zq ?_|refine Jf ?_|refine J7 ?_|refine J3 ?_|refine Jb ?_|refine Zv ?_|refine J6 ?_
   exact⟨(k+1,Z++[n]),⟨hlt,by simp[i2],J6V i3 (by omega) (by omega),i5⟩,by(try simp only);omega,JC [(2,5)] rfl rfl rfl ⟨⟨rfl,rfl⟩,⟨rfl,rfl⟩,⟨rfl,rfl⟩,⟨rfl,rfl⟩,⟨rfl,rfl⟩,trivial⟩ ⟨⟨rfl,rfl⟩,⟨Jn rfl (by first|exact Jq _ _ _|rfl),Je rfl,Jl _ _ _⟩,trivial⟩⟩
 obtain⟨hd2,hlt2⟩:=Jc hy
 have em:decide ((m:Int)<(c.insts.length:Int))=true:=J0 (by omega)
 obtain⟨g0,g1⟩:=hg k c hx g (List.mem_of_getElem? hy)
 obtain⟨gn,hgn⟩:∃gn:Nat,g=(gn:Int):=⟨g.toNat,by omega⟩
 have hgl:gn<Z.length:=by omega
 have hz:Z[gn]? = some Z[gn]:=List.getElem?_eq_getElem hgl
 have hzb:=i3 _ (List.mem_of_getElem? hz)
 have hr:(im2 eNum Z)[gn]? = some [vi Z[gn]]:=J2E hz
 rw[hd2]at j4
 simp only[instSum]at j4
 rw[hgn,Int.toNat_natCast,hz]at j4
 simp only[Option.getD_some]at j4
 generalize Z[gn]=z at hz hzb hr j4
 repeat' first|refine Z1 ?_|refine Z2 ?_|refine Z3 ?_|refine Z5 ?_|refine Yf (n:=g) gn hgn hgl ?_|refine Ye hr ?_|refine Ze ?_|refine Zf ?_|refine Zo ?_|refine J5 ?_|refine Jd ?_|refine Zp ?_|refine J4 ?_|refine J7 ?_|refine J3 ?_|refine J6 ?_
 exact⟨(m+1,n+z),⟨hlt2,by simp only;omega,by simp only;omega,j4⟩,by(try simp only);omega,Jh (Nat.le_of_ble_eq_true rfl) ⟨⟨rfl,rfl⟩,⟨rfl,rfl⟩,⟨rfl,rfl⟩,⟨rfl,rfl⟩,⟨rfl,rfl⟩,⟨rfl,rfl⟩,⟨rfl,rfl⟩,⟨rfl,rfl⟩,⟨rfl,rfl⟩,trivial⟩ ⟨⟨rfl,rfl⟩,⟨rfl,Je rfl,Jl _ _ _⟩,trivial⟩⟩
end Go.Pm
/- Part of the proof: Ms8. -/
namespace Go.Pm
attribute [local irreducible] AR Ok inBlock andThen endQ aoper
set_option maxHeartbeats 4000000
open Go.Proofs
def bdD (B:List Int):Prop:=∀b∈B,0≤b∧b≤400001
theorem J9q {B I:List Int} (hB:bdD B) (p:Int):0≤callC B I p:=by
 unfold callC
 cases hq:B[((I[p.toNat]?).getD 0).toNat]? with
 |none=>simp
 |some b=>exact(hB b (List.mem_of_getElem? hq)).1
mutual
theorem Ja5 {B I:List Int} (hB:bdD B):∀b:Br,0≤costB B I b
 |.nd s y n=>by
  have h1:=J1R (I:=I) hB y
  have h2:=J1R (I:=I) hB n
  have h3:=J9q (I:=I) hB s.pos
  simp only[costB]
  split
  ·omega
  ·split<;>omega
theorem J1R {B I:List Int} (hB:bdD B):∀l:List Br,0≤costL B I l
 |[]=>by simp[costL]
 |b::l=>by
  have h1:=Ja5 (I:=I) hB b
  have h2:=J1R (I:=I) hB l
  simp only[costL]
  omega
end
theorem JaK (c:Cls) (hwc:wCls c≤1048576) (B:List Int) (hB:bdD B):∀(N:Nat) (l:List Sm) (R:List Br),l.length=N→l.length≤1048576→growI l=some R→goodL B c.insts R→
  PFun X 132 [.agg ((eCls c).map .d),.d (.im (l.map eSm)),.d (.im (B.map eNum))] (vi (min (costL B c.insts R) 400001)):=by
 intro N
 induction N using Nat.strongRecOn with
 |_ N ih=>
  intro l R hN hl hgr hgd
  have hnn:=J1R (I:=c.insts) hB
  have fin:∀{v:Int},v=min (costL B c.insts R) 400001→AEnd.ret (vi v)=AEnd.ret (vi (min (costL B c.insts R) 400001)):=fun h=>by rw[h]
  refine Jj Tryz.func132 rfl (by decide) Tryz.ntmps132 Tryz.results132 (by simp) rfl rfl ?_
  repeat' first|refine Z1 ?_|refine Z2 ?_|refine Zo ?_|refine J5 ?_|refine J4 ?_
  refine Jo (ι:=Nat×Int) (fun x_=>envL [(1,.d (.im (l.map eSm))),(2,.d (.im (B.map eNum))),(3,.ref 0 0),(7,vi x_.2),(8,vi x_.1)]) (fun x_=>stL [some (.var ((eCls c).map .d))]) (fun x_=>x_.1≤l.length∧0≤x_.2∧x_.2≤400001∧∃T,growI (l.drop x_.1)=some T∧goodL B c.insts T∧min (x_.2+costL B c.insts T) 400001=min (costL B c.insts R) 400001) (fun x_=>l.length-x_.1) (0,0) (⟨Nat.zero_le _,Int.le_refl _,by simp only;omega,R,hgr,hgd,by simp only[Int.zero_add]⟩) (Jg rfl ⟨.refl _,.refl _,.refl _,.refl _,.refl _,trivial⟩ ⟨⟨rfl,_,rfl,rfl,fun _ _ _=>.refl _⟩,trivial⟩) (fun _=>Nat.le_refl 1) ?_
  rintro⟨i,v⟩ ⟨i1,i2,i3,T,i4,i5,i6⟩
  simp only at i1 i2 i3 i4 i5 i6
  rcases hx:l[i]? with _|s
  ·have hle:=Jk hx
   have ek:decide ((i:Int)<(l.length:Int))=false:=J1 (by omega)
   rw[Jm hx,J5j,Option.some.injEq]at i4
   subst i4
   simp only[costL]at i6
   repeat' first|refine Z1 ?_|refine Z2 ?_|refine Z5 ?_|refine Zd ?_|refine Zo ?_|refine J5 ?_|refine Zq ?_|refine Jf ?_|refine J9 ?_|refine J3 ?_|refine Jb ?_|refine Zv ?_|refine Zt ?_
   exact fin (by omega)
  obtain⟨hd,hlt⟩:=Jc hx
  have ek:decide ((i:Int)<(l.length:Int))=true:=J0 (by omega)
  have hsp:=JL i4
  rw[hd]at hsp
  by_cases k4:s.kind=4
  ·have d4:decide (s.kind=4)=true:=J0 k4
   obtain⟨y,e,n,f,r2,Y,N2,T2,hr,h5,h6,hy,hn,ht,hT⟩:=J7l k4 hsp
   subst hT
   rw[hr]at hd
   have hp:partsS l i=(((i+1+y.length:Nat):Int),((i+1+y.length+1+n.length:Nat):Int)):=by unfold partsS;rw[hd];exact J1Q k4 h5 h6 hy hn r2 i
   have hps:=J1w l i i1 hl
   rw[hp]at hps
   obtain⟨c0,c1,c2,c3⟩:=J54 hd
   simp only[goodL,goodB]at i5
   obtain⟨⟨g1,g2,g3⟩,g4⟩:=i5
   have hcy:=ih y.length (by omega) y Y rfl (by omega) (JI hy) g2
   have hcn:=ih n.length (by omega) n N2 rfl (by omega) (JI hn) g3
   have n1:=hnn Y
   have n2:=hnn N2
   have n3:=hnn T2
   simp only[costL,costB]at i6
   rw[if_neg (by omega),if_pos k4]at i6
   generalize hcY:costL B c.insts Y=cY at hcy n1 i6
   generalize hcN:costL B c.insts N2=cN at hcn n2 i6
   have hgt:growI (l.drop (i+1+y.length+1+n.length+1))=some T2:=by rw[c3];exact JI ht
   by_cases hmx:min cY 400001<min cN 400001
   ·have em:decide (min cY 400001<min cN 400001)=true:=J0 hmx
    by_cases hb:400000<v+(1+min cN 400001)
    ·have eb:decide (400000<v+(1+min cN 400001))=true:=J0 hb
     repeat' first|refine Z1 ?_|refine Z2 ?_|refine Z3 ?_|refine Z5 ?_|refine Zc (hps) ?_|refine Zd ?_|refine Ze ?_|refine Zf ?_|refine Zw ?_|refine Zx ?_|refine Zz (Ysl (e:=eSm) (l:=l) (i+1) (i+1+y.length) y c1 ⟨rfl,rfl⟩) ?_|refine Zz (Ysl (e:=eSm) (l:=l) (i+1+y.length+1) (i+1+y.length+1+n.length) n c2 ⟨rfl,rfl⟩) ?_|refine Zz (Zc (hcy) ⟨rfl,rfl⟩) ?_|refine Zz (Zc (hcn) ⟨rfl,rfl⟩) ?_|refine Zz (Zf ⟨rfl,rfl⟩) ?_|refine Zo ?_|refine J5 ?_|refine Jd ?_|refine Jy Jr (by decide +kernel) ?_|refine Zp ?_|refine J4 ?_|refine J7 ?_|refine J3 ?_|refine J6 ?_
     exact⟨(i+1+y.length+1+n.length+1,400001),⟨by simp only;omega,by simp only;omega,by simp only;omega,T2,hgt,g4,by simp only;omega⟩,by(try simp only);omega,Jh (Nat.le_of_ble_eq_true rfl) ⟨⟨rfl,rfl⟩,⟨rfl,rfl⟩,⟨rfl,rfl⟩,⟨rfl,rfl⟩,⟨rfl,rfl⟩,trivial⟩ ⟨⟨rfl,rfl⟩,trivial⟩⟩
    ·have eb:decide (400000<v+(1+min cN 400001))=false:=J1 hb
     repeat' first|refine Z1 ?_|refine Z2 ?_|refine Z3 ?_|refine Z5 ?_|refine Zc (hps) ?_|refine Zd ?_|refine Ze ?_|refine Zf ?_|refine Zw ?_|refine Zx ?_|refine Zz (Ysl (e:=eSm) (l:=l) (i+1) (i+1+y.length) y c1 ⟨rfl,rfl⟩) ?_|refine Zz (Ysl (e:=eSm) (l:=l) (i+1+y.length+1) (i+1+y.length+1+n.length) n c2 ⟨rfl,rfl⟩) ?_|refine Zz (Zc (hcy) ⟨rfl,rfl⟩) ?_|refine Zz (Zc (hcn) ⟨rfl,rfl⟩) ?_|refine Zz (Zf ⟨rfl,rfl⟩) ?_|refine Zo ?_|refine J5 ?_|refine Jd ?_|refine Jy Jr (by decide +kernel) ?_|refine Zp ?_|refine Zq ?_|refine J4 ?_|refine J7 ?_|refine J3 ?_|refine J6 ?_
     exact⟨(i+1+y.length+1+n.length+1,v+(1+min cN 400001)),⟨by simp only;omega,by simp only;omega,by simp only;omega,T2,hgt,g4,by simp only;omega⟩,by(try simp only);omega,Jh (Nat.le_of_ble_eq_true rfl) ⟨⟨rfl,rfl⟩,⟨rfl,rfl⟩,⟨rfl,rfl⟩,⟨rfl,rfl⟩,⟨rfl,rfl⟩,trivial⟩ ⟨⟨rfl,rfl⟩,trivial⟩⟩
   ·have em:decide (min cY 400001<min cN 400001)=false:=J1 hmx
    by_cases hb:400000<v+(1+min cY 400001)
    ·have eb:decide (400000<v+(1+min cY 400001))=true:=J0 hb
     repeat' first|refine Z1 ?_|refine Z2 ?_|refine Z3 ?_|refine Z5 ?_|refine Zc (hps) ?_|refine Zd ?_|refine Ze ?_|refine Zf ?_|refine Zw ?_|refine Zx ?_|refine Zz (Ysl (e:=eSm) (l:=l) (i+1) (i+1+y.length) y c1 ⟨rfl,rfl⟩) ?_|refine Zz (Ysl (e:=eSm) (l:=l) (i+1+y.length+1) (i+1+y.length+1+n.length) n c2 ⟨rfl,rfl⟩) ?_|refine Zz (Zc (hcy) ⟨rfl,rfl⟩) ?_|refine Zz (Zc (hcn) ⟨rfl,rfl⟩) ?_|refine Zz (Zf ⟨rfl,rfl⟩) ?_|refine Zo ?_|refine J5 ?_|refine Jd ?_|refine Jy Jr (by decide +kernel) ?_|refine Zp ?_|refine Zq ?_|refine J4 ?_|refine J7 ?_|refine J3 ?_|refine J6 ?_
     exact⟨(i+1+y.length+1+n.length+1,400001),⟨by simp only;omega,by simp only;omega,by simp only;omega,T2,hgt,g4,by simp only;omega⟩,by(try simp only);omega,Jh (Nat.le_of_ble_eq_true rfl) ⟨⟨rfl,rfl⟩,⟨rfl,rfl⟩,⟨rfl,rfl⟩,⟨rfl,rfl⟩,⟨rfl,rfl⟩,trivial⟩ ⟨⟨rfl,rfl⟩,trivial⟩⟩
    ·have eb:decide (400000<v+(1+min cY 400001))=false:=J1 hb
     repeat' first|refine Z1 ?_|refine Z2 ?_|refine Z3 ?_|refine Z5 ?_|refine Zc (hps) ?_|refine Zd ?_|refine Ze ?_|refine Zf ?_|refine Zw ?_|refine Zx ?_|refine Zz (Ysl (e:=eSm) (l:=l) (i+1) (i+1+y.length) y c1 ⟨rfl,rfl⟩) ?_|refine Zz (Ysl (e:=eSm) (l:=l) (i+1+y.length+1) (i+1+y.length+1+n.length) n c2 ⟨rfl,rfl⟩) ?_|refine Zz (Zc (hcy) ⟨rfl,rfl⟩) ?_|refine Zz (Zc (hcn) ⟨rfl,rfl⟩) ?_|refine Zz (Zf ⟨rfl,rfl⟩) ?_|refine Zo ?_|refine J5 ?_|refine Jd ?_|refine Jy Jr (by decide +kernel) ?_|refine Zp ?_|refine Zq ?_|refine J4 ?_|refine J7 ?_|refine J3 ?_|refine J6 ?_
     exact⟨(i+1+y.length+1+n.length+1,v+(1+min cY 400001)),⟨by simp only;omega,by simp only;omega,by simp only;omega,T2,hgt,g4,by simp only;omega⟩,by(try simp only);omega,Jh (Nat.le_of_ble_eq_true rfl) ⟨⟨rfl,rfl⟩,⟨rfl,rfl⟩,⟨rfl,rfl⟩,⟨rfl,rfl⟩,⟨rfl,rfl⟩,trivial⟩ ⟨⟨rfl,rfl⟩,trivial⟩⟩
  have d4:decide (s.kind=4)=false:=J1 k4
  obtain⟨_,_,T2,ht,hT⟩:=J41 k4 hsp
  subst hT
  simp only[goodL,goodB]at i5
  obtain⟨⟨g1,_⟩,g4⟩:=i5
  have n3:=hnn T2
  simp only[costL,costB]at i6
  by_cases k3:s.kind=3
  ·have d3:decide (s.kind=3)=true:=J0 k3
   obtain⟨p0,g,b,hI,g0,hb⟩:=g1 k3
   rw[if_pos k3]at i6
   have hc:callC B c.insts s.pos=b:=by unfold callC;rw[hI];simp only[Option.getD_some];rw[hb];rfl
   rw[hc]at i6
   have hbb:=hB b (List.mem_of_getElem? hb)
   obtain⟨p,hp⟩:∃p:Nat,s.pos=(p:Int):=⟨s.pos.toNat,by omega⟩
   obtain⟨q,hq⟩:∃q:Nat,g=(q:Int):=⟨g.toNat,by omega⟩
   rw[hp,Int.toNat_natCast]at hI
   rw[hq,Int.toNat_natCast]at hb
   by_cases hm:400000<v+(1+b)
   ·have eb:decide (400000<v+(1+b))=true:=J0 hm
    repeat' first|refine Z1 ?_|refine Z2 ?_|refine Z3 ?_|refine Z5 ?_|refine Zd ?_|refine Ze ?_|refine Zf ?_|refine Zw ?_|refine Zy ?_|refine Zz (Yej (e:=eNum) (n:=s.pos) p hp hI ⟨rfl,rfl⟩) ?_|refine Zz (Yej (e:=eNum) (n:=g) q hq hb ⟨rfl,rfl⟩) ?_|refine Zz (Ze ⟨rfl,rfl⟩) ?_|refine Zz (Zf ⟨rfl,rfl⟩) ?_|refine Zo ?_|refine J5 ?_|refine Jd ?_|refine Jy Jr (by decide +kernel) ?_|refine Zp ?_|refine Zq ?_|refine J4 ?_|refine J7 ?_|refine J3 ?_|refine J6 ?_
    exact⟨(i+1,400001),⟨hlt,by simp only;omega,by simp only;omega,T2,JI ht,g4,by simp only;omega⟩,by(try simp only);omega,Jh (Nat.le_of_ble_eq_true rfl) ⟨⟨rfl,rfl⟩,⟨rfl,rfl⟩,⟨rfl,rfl⟩,⟨rfl,rfl⟩,⟨rfl,rfl⟩,trivial⟩ ⟨⟨rfl,rfl⟩,trivial⟩⟩
   ·have eb:decide (400000<v+(1+b))=false:=J1 hm
    repeat' first|refine Z1 ?_|refine Z2 ?_|refine Z3 ?_|refine Z5 ?_|refine Zd ?_|refine Ze ?_|refine Zf ?_|refine Zw ?_|refine Zy ?_|refine Zz (Yej (e:=eNum) (n:=s.pos) p hp hI ⟨rfl,rfl⟩) ?_|refine Zz (Yej (e:=eNum) (n:=g) q hq hb ⟨rfl,rfl⟩) ?_|refine Zz (Ze ⟨rfl,rfl⟩) ?_|refine Zz (Zf ⟨rfl,rfl⟩) ?_|refine Zo ?_|refine J5 ?_|refine Jd ?_|refine Jy Jr (by decide +kernel) ?_|refine Zp ?_|refine Zq ?_|refine J4 ?_|refine J7 ?_|refine J3 ?_|refine J6 ?_
    exact⟨(i+1,v+(1+b)),⟨hlt,by simp only;omega,by simp only;omega,T2,JI ht,g4,by simp only;omega⟩,by(try simp only);omega,Jh (Nat.le_of_ble_eq_true rfl) ⟨⟨rfl,rfl⟩,⟨rfl,rfl⟩,⟨rfl,rfl⟩,⟨rfl,rfl⟩,⟨rfl,rfl⟩,trivial⟩ ⟨⟨rfl,rfl⟩,trivial⟩⟩
  have d3:decide (s.kind=3)=false:=J1 k3
  rw[if_neg k3,if_neg k4]at i6
  by_cases hm:400000<v+1
  ·have eb:decide (400000<v+1)=true:=J0 hm
   repeat' first|refine Z1 ?_|refine Z2 ?_|refine Z3 ?_|refine Z5 ?_|refine Zd ?_|refine Ze ?_|refine Zf ?_|refine Zo ?_|refine J5 ?_|refine Jd ?_|refine Zp ?_|refine Zq ?_|refine J4 ?_|refine J7 ?_|refine J3 ?_|refine J6 ?_
   exact⟨(i+1,400001),⟨hlt,by simp only;omega,by simp only;omega,T2,JI ht,g4,by simp only;omega⟩,by(try simp only);omega,Jh (Nat.le_of_ble_eq_true rfl) ⟨⟨rfl,rfl⟩,⟨rfl,rfl⟩,⟨rfl,rfl⟩,⟨rfl,rfl⟩,⟨rfl,rfl⟩,trivial⟩ ⟨⟨rfl,rfl⟩,trivial⟩⟩
  ·have eb:decide (400000<v+1)=false:=J1 hm
   repeat' first|refine Z1 ?_|refine Z2 ?_|refine Z3 ?_|refine Z5 ?_|refine Zd ?_|refine Ze ?_|refine Zf ?_|refine Zo ?_|refine J5 ?_|refine Jd ?_|refine Zp ?_|refine Zq ?_|refine J4 ?_|refine J7 ?_|refine J3 ?_|refine J6 ?_
   exact⟨(i+1,v+1),⟨hlt,by simp only;omega,by simp only;omega,T2,JI ht,g4,by simp only;omega⟩,by(try simp only);omega,Jh (Nat.le_of_ble_eq_true rfl) ⟨⟨rfl,rfl⟩,⟨rfl,rfl⟩,⟨rfl,rfl⟩,⟨rfl,rfl⟩,⟨rfl,rfl⟩,trivial⟩ ⟨⟨rfl,rfl⟩,trivial⟩⟩
def boundV (B:List Int) (c:Cls):Int:=min (costL B c.insts ((growI c.body).getD [])) 400001
def boundsGo:List Int→List Cls→List Int
 |B,[]=>B
 |B,c::r=>boundsGo (B++[boundV B c]) r
def boundsS (cs:List Cls):List Int:=boundsGo [] cs
def goodC (k:Nat) (c:Cls):Prop:=(∃R,growI c.body=some R)∧(∀g∈c.insts,0≤g∧g<(k:Int))∧∀s∈c.body,s.kind=3→0≤s.pos∧s.pos<(c.insts.length:Int)
theorem J7C {k:Nat} {c:Cls} (h:goodC k c) {B:List Int} (hB:B.length=k):∀s∈c.body,goodS B c.insts s:=by
 intro s hs h3
 obtain⟨_,h1,h2⟩:=h
 obtain⟨g1,g2⟩:=h2 s hs h3
 have hig:c.insts[s.pos.toNat]? = some (c.insts[s.pos.toNat]'(by omega)):=List.getElem?_eq_getElem (by omega)
 obtain⟨g3,g4⟩:=h1 _ (List.mem_of_getElem? hig)
 exact⟨g1,_,_,hig,g3,List.getElem?_eq_getElem (by omega)⟩
theorem J7s (cs:List Cls) (hw:wL wCls cs≤1048576) (hg:∀(k:Nat) (c:Cls),cs[k]? = some c→goodC k c):PFun X 79 [.agg [.d (.im (cs.map eCls))]] (.d (.im ((boundsS cs).map eNum))):=by
 have hcl:cs.length≤1048576:=by simp only[wL]at hw;omega
 refine Jj Tryz.func79 rfl (by decide) Tryz.ntmps79 Tryz.results79 (by simp) rfl rfl ?_
 repeat' first|refine Z1 ?_|refine Z2 ?_|refine Z5 ?_|refine J39 rfl rfl rfl rfl rfl rfl rfl ?_|refine Zd ?_|refine Zo ?_|refine J5 ?_|refine J4 ?_
 refine J0w (ι:=Nat×List Int) (fun x_=>envL [(1,.ref 0 0),(3,.sl 1 2 0 x_.2.length),(8,.d (.im (cs.map eCls))),(9,vi cs.length),(10,vi x_.1)]) (fun x_=>stL [some (.var [.d (.im (cs.map eCls))]),some (.row 2 3 1 (im2 eNum x_.2)),none]) (fun x_=>x_.1≤cs.length∧x_.2.length=x_.1∧bdD x_.2∧boundsGo x_.2 (cs.drop x_.1)=boundsS cs) (fun x_=>cs.length-x_.1) (0,[]) (⟨Nat.zero_le _,rfl,fun x hx=>by simp at hx,rfl⟩) Turn.refl (JC [(2,1)] rfl rfl rfl ⟨⟨rfl,rfl⟩,⟨rfl,rfl⟩,⟨rfl,rfl⟩,⟨rfl,rfl⟩,⟨rfl,rfl⟩,trivial⟩ ⟨⟨rfl,rfl⟩,⟨Jn rfl (by first|exact Jq _ _ _|rfl),Je rfl,Jl _ _ _⟩,trivial⟩) ?_
 rintro⟨k,B⟩ ⟨i1,i2,i3,i5⟩
 simp only at i1 i2 i3 i5
 rcases hx:cs[k]? with _|c
 ·have hle:=Jk hx
  have ek:decide ((k:Int)<(cs.length:Int))=false:=J1 (by omega)
  rw[Jm hx]at i5
  have i5:B=boundsS cs:=i5
  subst i5
  repeat' first|refine Z1 ?_|refine Z2 ?_|refine J0G (e:=eNum) (l:=boundsS cs) rfl 2 rfl rfl rfl ?_|refine Zo ?_|refine J5 ?_|refine Zq ?_|refine Jf ?_|refine J9 ?_|refine J3 ?_|refine Jb ?_|refine Zv ?_|refine Zt ?_
  rfl
 obtain⟨hd,hlt⟩:=Jc hx
 have ek:decide ((k:Int)<(cs.length:Int))=true:=J0 (by omega)
 have hwc:wCls c≤1048576:=by have:=Jz (w:=wCls) (List.mem_of_getElem? hx);simp only[wL]at hw;omega
 have hl:=J1G hwc
 have hgc:=hg k c hx
 obtain⟨R,hR⟩:=hgc.1
 obtain⟨gg,_⟩:=J5y (J7C hgc i2) hR
 have hsum:=JaK c hwc B i3 c.body.length c.body R rfl (by omega) hR gg
 have hbv:boundV B c=min (costL B c.insts R) 400001:=by unfold boundV;rw[hR];rfl
 have hnn:=J1R (I:=c.insts) i3 R
 rw[←hbv]at hsum
 rw[hd]at i5
 simp only[boundsGo]at i5
 have hpush:bdD (B++[boundV B c]):=by
  intro z hz
  rcases List.mem_append.1 hz with h'|h'
  ·exact i3 z h'
  ·simp only[List.mem_singleton]at h';subst h';omega
 repeat' first|refine Z1 ?_|refine Z2 ?_|refine Z3 ?_|refine Z4 ?_|refine Z5 ?_|refine Ym (PFun.lendL (args:=[.agg ((eCls c).map .d),.d (.im (c.body.map eSm)),.sl 1 2 0 B.length]) hsum ⟨Jah _,Jbp _,.data (J2j rfl rfl),trivial⟩) ?_|refine Yl (e:=eNum) (l:=B) [boundV B c] ?_|refine Ze ?_|refine Zf ?_|refine Zo ?_|refine J5 ?_|refine Jd ?_|refine Zp ?_|refine J4 ?_|refine J7 ?_|refine J3 ?_|refine J6 ?_
 exact⟨(k+1,B++[boundV B c]),⟨hlt,by simp[i2],hpush,i5⟩,by(try simp only);omega,JC [(2,5)] rfl rfl rfl ⟨⟨rfl,rfl⟩,⟨rfl,rfl⟩,⟨rfl,rfl⟩,⟨rfl,rfl⟩,⟨rfl,rfl⟩,trivial⟩ ⟨⟨rfl,rfl⟩,⟨Jn rfl (by first|exact Jq _ _ _|rfl),Je rfl,Jl _ _ _⟩,trivial⟩⟩
end Go.Pm
