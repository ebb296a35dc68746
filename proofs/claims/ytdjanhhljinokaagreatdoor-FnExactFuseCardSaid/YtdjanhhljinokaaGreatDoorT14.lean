/- Part of the proof: Mk1. -/
import Derived.Test.YtdjanhhljinokaaGreatDoorT13
import Derived.Test.YtdjanhhljinokaaGreatDoorT10
import Derived.Test.YtdjanhhljinokaaGreatDoorProg
import Derived.Test.YtdjanhhljinokaaGreatDoorT5
import Derived.Test.YtdjanhhljinokaaGreatDoorT7
import Derived.Test.YtdjanhhljinokaaGreatDoorT8
import Derived.MakeChecks
import Derived.Test.YtdjanhhljinokaaGreatDoorRows
set_option linter.unusedVariables false
set_option linter.unusedSimpArgs false
namespace Go.Pm
theorem J9R {k:Nat} (h:k<10):itoaB (k:Int)=B [UInt8.ofNat (48+k)]:=by
 unfold itoaB B;rw[Lib.itoa_nonneg,Lib.decDigits,dif_pos h]
theorem Ja6 {k:Nat} (h:¬k<10):itoaB (k:Int)=itoaB ((k / 10:Nat):Int)++B [UInt8.ofNat (48+k % 10)]:=by
 unfold itoaB B;rw[Lib.itoa_nonneg,Lib.itoa_nonneg,Lib.decDigits,dif_neg h]
 apply ByteArray.ext
 simp[ByteArray.data_append]
theorem J9i (n:Int) (h0:-9223372036854775808≤n) (h1:n≤9223372036854775807):(itoaB n).size≤21:=Lib.itoa_length_le n h0 h1
def digs (k:Nat):ByteArray:=if k=0 then B []else itoaB (k:Int)
theorem J8y {k:Nat} (h:0<k):digs k=digs (k / 10)++B [UInt8.ofNat (48+k % 10)]:=by
 unfold digs
 rw[if_neg (by omega)]
 by_cases h2:k<10
 ·rw[if_pos (by omega),J9k,J9R h2,Nat.mod_eq_of_lt h2]
 ·rw[if_neg (by omega),Ja6 h2]
def markT (k:Int):ByteArray:=B [109]++itoaB k
def mkL {α:Type} (f:α→Int→α×Int):List α→Int→List α×Int
 |[],k=>([],k)
 |x::l,k=>((f x k).1::(mkL f l (f x k).2).1,(mkL f l (f x k).2).2)
def mkStr (_:ByteArray) (k:Int):ByteArray×Int:=(markT k,k+1)
def mkNum (_:Int) (k:Int):Int×Int:=(k,k+1)
def mkItm (_:Itm) (k:Int):Itm×Int:=(⟨k,k+1,markT (k+1+1)⟩,k+1+1+1)
def mkSlt (_:Slt) (k:Int):Slt×Int:=(⟨markT k,k+1⟩,k+1+1)
def mkCnd (_:Cnd) (k:Int):Cnd×Int:=(⟨markT k,decide ((k+1).tmod 3=0)⟩,k+1+1)
def mkItms:List Itm→Int→List Itm×Int:=mkL mkItm
def mkVr (x:Vr) (k:Int):Vr×Int:=(⟨markT k,k+1,(mkL mkCnd x.clock (k+1+1)).1⟩,(mkL mkCnd x.clock (k+1+1)).2)
def mkEqn (x:Eqn) (k:Int):Eqn×Int:=
 let a:=mkL mkStr x.lhs k
 let b:=mkL mkItm x.code a.2
 let c:=mkL mkItms x.args (b.2+1)
 (⟨a.1,b.1,markT b.2,c.1⟩,c.2)
def mkNod (x:Nod) (k:Int):Nod×Int:=
 let a:=mkL mkVr x.ins (k+1)
 let b:=mkL mkVr x.outs a.2
 let c:=mkL mkVr x.vars b.2
 let d:=mkL mkEqn x.eqs c.2
 (⟨markT k,a.1,b.1,c.1,d.1⟩,d.2)
def mkSm (x:Sm) (k:Int):Sm×Int:=
 let a:=mkL mkStr x.outs (k+1+1+1)
 let b:=mkL mkItm x.code a.2
 let c:=mkL mkItms x.args b.2
 (⟨k,markT (k+1),k+1+1,a.1,b.1,c.1⟩,c.2)
def mkCls (x:Cls) (k:Int):Cls×Int:=
 let a:=mkL mkSlt x.ins (k+1)
 let b:=mkL mkSlt x.outs a.2
 let c:=mkL mkStr x.locs b.2
 let d:=mkL mkNum x.mems c.2
 let e:=mkL mkNum x.insts d.2
 let f:=mkL mkSm x.body e.2
 (⟨markT k,a.1,b.1,c.1,d.1,e.1,f.1⟩,f.2)
theorem J0d {α:Type} (f:α→Int→α×Int):∀(l:List α) (k:Int),(mkL f l k).1.length=l.length
 |[],_=>rfl
 |x::l,k=>by simp only[mkL,List.length_cons,J0d f l]
def Cnt {α:Type} (f:α→Int→α×Int) (w:α→Nat):Prop:=∀x k,k≤(f x k).2∧(f x k).2≤k+4*(1+(w x:Int))
theorem J00 {α:Type} {w:α→Nat} (x:α) (l:List α):wL w (x::l)=(1+w x)+wL w l:=by
 simp only[wL,List.length_cons,List.map_cons,List.sum_cons];omega
theorem cntL {α:Type} {f:α→Int→α×Int} {w:α→Nat} (h:Cnt f w):∀(l:List α) (k:Int),k≤(mkL f l k).2∧(mkL f l k).2≤k+4*(wL w l:Int)
 |[],k=>by simp[mkL,wL]
 |x::l,k=>by
  have h1:=h x k
  have h2:=cntL h l (f x k).2
  have e:=J00 (w:=w) x l
  simp only[mkL]
  omega
theorem cntS:Cnt mkStr wStr:=fun x k=>by simp only[mkStr];omega
theorem cntN:Cnt mkNum wNum0:=fun x k=>by simp only[mkNum];omega
theorem cntI:Cnt mkItm wItm:=fun x k=>by simp only[mkItm];omega
theorem cntSl:Cnt mkSlt wSlt:=fun x k=>by simp only[mkSlt];omega
theorem cntIs:Cnt mkItms (wL wItm):=fun x k=>by have:=cntL cntI x k;unfold mkItms;omega
theorem cntSm:Cnt mkSm wSm:=fun x k=>by
 have h1:=cntL cntS x.outs (k+1+1+1)
 have h2:=cntL cntI x.code (mkL mkStr x.outs (k+1+1+1)).2
 have h3:=cntL cntIs x.args (mkL mkItm x.code (mkL mkStr x.outs (k+1+1+1)).2).2
 simp only[mkSm,wSm];omega
theorem cntCl:Cnt mkCls wCls:=fun x k=>by
 have h1:=cntL cntSl x.ins (k+1)
 have h2:=cntL cntSl x.outs (mkL mkSlt x.ins (k+1)).2
 have h3:=cntL cntS x.locs (mkL mkSlt x.outs (mkL mkSlt x.ins (k+1)).2).2
 have h4:=cntL cntN x.mems (mkL mkStr x.locs (mkL mkSlt x.outs (mkL mkSlt x.ins (k+1)).2).2).2
 have h5:=cntL cntN x.insts (mkL mkNum x.mems (mkL mkStr x.locs (mkL mkSlt x.outs (mkL mkSlt x.ins (k+1)).2).2).2).2
 have h6:=cntL cntSm x.body (mkL mkNum x.insts (mkL mkNum x.mems (mkL mkStr x.locs (mkL mkSlt x.outs (mkL mkSlt x.ins (k+1)).2).2).2).2).2
 simp only[mkCls,wCls];omega
end Go.Pm
/- Part of the proof: Ty. -/
namespace Go.Pm
def tyL:List (Option TI):=[
 none,
 some ⟨.func,1,8,[.nilFunc],false⟩,
 some ⟨.int .i64,1,8,[.int .i64 0],false⟩,
 some ⟨.int .i64,1,8,[.int .i64 0],false⟩,
 some ⟨.bool,1,1,[.bool false],false⟩,
 some ⟨.int .u8,1,1,[.int .u8 0],false⟩,
 some ⟨.int .u8,1,1,[.int .u8 0],false⟩,
 some ⟨.struct [(0,2),(1,3),(2,4),(3,6)],4,24,[.int .i64 0,.int .i64 0,.bool false,.int .u8 0],false⟩,
 some ⟨.struct [(0,2),(1,3),(2,4),(3,6)],4,24,[.int .i64 0,.int .i64 0,.bool false,.int .u8 0],false⟩,
 some ⟨.string,1,16,[.string .empty],false⟩,
 some ⟨.string,1,16,[.string .empty],false⟩,
 some ⟨.string,1,16,[.string .empty],false⟩,
 some ⟨.int .u64,1,8,[.int .u64 0],false⟩,
 some ⟨.struct [(0,9),(1,12)],2,24,[.string .empty,.int .u64 0],false⟩,
 some ⟨.struct [(0,9),(1,12)],2,24,[.string .empty,.int .u64 0],false⟩,
 some ⟨.ptr 279,1,8,[.pointer none],false⟩,
 some ⟨.ptr 282,1,8,[.pointer none],false⟩,
 some ⟨.ptr 290,1,8,[.pointer none],false⟩,
 some ⟨.struct [(0,17)],1,8,[.pointer none],false⟩,
 some ⟨.struct [(0,17)],1,8,[.pointer none],false⟩,
 some ⟨.iface,1,16,[.nilIface],false⟩,
 some ⟨.int .i32,1,4,[.int .i32 0],false⟩,
 some ⟨.slice 121,1,24,[.slice none 0 0],false⟩,
 some ⟨.struct [(0,22)],1,24,[.slice none 0 0],false⟩,
 some ⟨.struct [(0,22)],1,24,[.slice none 0 0],false⟩,
 some ⟨.slice 3,1,24,[.slice none 0 0],false⟩,
 some ⟨.func,1,8,[.nilFunc],false⟩,
 none,
 some ⟨.func,1,8,[.nilFunc],false⟩,
 some ⟨.slice 53,1,24,[.slice none 0 0],false⟩,
 some ⟨.struct [(0,29)],1,24,[.slice none 0 0],false⟩,
 some ⟨.struct [(0,29)],1,24,[.slice none 0 0],false⟩,
 some ⟨.func,1,8,[.nilFunc],false⟩,
 some ⟨.func,1,8,[.nilFunc],false⟩,
 some ⟨.func,1,8,[.nilFunc],false⟩,
 some ⟨.func,1,8,[.nilFunc],false⟩,
 some ⟨.func,1,8,[.nilFunc],false⟩,
 some ⟨.func,1,8,[.nilFunc],false⟩,
 some ⟨.func,1,8,[.nilFunc],false⟩,
 some ⟨.func,1,8,[.nilFunc],false⟩,
 some ⟨.func,1,8,[.nilFunc],false⟩,
 none,
 some ⟨.func,1,8,[.nilFunc],false⟩,
 some ⟨.func,1,8,[.nilFunc],false⟩,
 some ⟨.func,1,8,[.nilFunc],false⟩,
 some ⟨.func,1,8,[.nilFunc],false⟩,
 some ⟨.func,1,8,[.nilFunc],false⟩,
 some ⟨.func,1,8,[.nilFunc],false⟩,
 some ⟨.func,1,8,[.nilFunc],false⟩,
 some ⟨.slice 88,1,24,[.slice none 0 0],false⟩,
 some ⟨.slice 9,1,24,[.slice none 0 0],false⟩,
 some ⟨.slice 96,1,24,[.slice none 0 0],false⟩,
 some ⟨.struct [(0,9),(1,49),(2,49),(3,50),(4,25),(5,25),(6,51)],7,160,[.string .empty,.slice none 0 0,.slice none 0 0,.slice none 0 0,.slice none 0 0,.slice none 0 0,.slice none 0 0],false⟩,
 some ⟨.struct [(0,9),(1,49),(2,49),(3,50),(4,25),(5,25),(6,51)],7,160,[.string .empty,.slice none 0 0,.slice none 0 0,.slice none 0 0,.slice none 0 0,.slice none 0 0,.slice none 0 0],false⟩,
 some ⟨.func,1,8,[.nilFunc],false⟩,
 some ⟨.func,1,8,[.nilFunc],false⟩,
 some ⟨.ptr 64,1,8,[.pointer none],false⟩,
 none,
 some ⟨.func,1,8,[.nilFunc],false⟩,
 some ⟨.struct [(0,25),(1,25)],2,48,[.slice none 0 0,.slice none 0 0],false⟩,
 some ⟨.struct [(0,25),(1,25)],2,48,[.slice none 0 0,.slice none 0 0],false⟩,
 some ⟨.ptr 60,1,8,[.pointer none],false⟩,
 some ⟨.slice 76,1,24,[.slice none 0 0],false⟩,
 some ⟨.struct [(0,31),(1,61),(2,62),(3,3)],4,64,[.slice none 0 0,.pointer none,.slice none 0 0,.int .i64 0],false⟩,
 some ⟨.struct [(0,31),(1,61),(2,62),(3,3)],4,64,[.slice none 0 0,.pointer none,.slice none 0 0,.int .i64 0],false⟩,
 some ⟨.slice 25,1,24,[.slice none 0 0],false⟩,
 some ⟨.func,1,8,[.nilFunc],false⟩,
 some ⟨.slice 2,1,24,[.slice none 0 0],false⟩,
 some ⟨.func,1,8,[.nilFunc],false⟩,
 some ⟨.func,1,8,[.nilFunc],false⟩,
 some ⟨.func,1,8,[.nilFunc],false⟩,
 some ⟨.func,1,8,[.nilFunc],false⟩,
 some ⟨.func,1,8,[.nilFunc],false⟩,
 some ⟨.func,1,8,[.nilFunc],false⟩,
 none,
 some ⟨.func,1,8,[.nilFunc],false⟩,
 some ⟨.slice 131,1,24,[.slice none 0 0],false⟩,
 none,
 some ⟨.func,1,8,[.nilFunc],false⟩,
 some ⟨.func,1,8,[.nilFunc],false⟩,
 some ⟨.func,1,8,[.nilFunc],false⟩,
 some ⟨.func,1,8,[.nilFunc],false⟩,
 some ⟨.func,1,8,[.nilFunc],false⟩,
 some ⟨.func,1,8,[.nilFunc],false⟩,
 some ⟨.ptr 53,1,8,[.pointer none],false⟩,
 some ⟨.map 9 3,1,8,[.map none],false⟩,
 some ⟨.func,1,8,[.nilFunc],false⟩,
 some ⟨.struct [(0,9),(1,3)],2,24,[.string .empty,.int .i64 0],false⟩,
 some ⟨.struct [(0,9),(1,3)],2,24,[.string .empty,.int .i64 0],true⟩,
 none,
 some ⟨.func,1,8,[.nilFunc],false⟩,
 some ⟨.slice 156,1,24,[.slice none 0 0],false⟩,
 none,
 some ⟨.func,1,8,[.nilFunc],false⟩,
 some ⟨.slice 91,1,24,[.slice none 0 0],false⟩,
 some ⟨.struct [(0,3),(1,9),(2,3),(3,50),(4,91),(5,94)],6,104,[.int .i64 0,.string .empty,.int .i64 0,.slice none 0 0,.slice none 0 0,.slice none 0 0],false⟩,
 some ⟨.struct [(0,3),(1,9),(2,3),(3,50),(4,91),(5,94)],6,104,[.int .i64 0,.string .empty,.int .i64 0,.slice none 0 0,.slice none 0 0,.slice none 0 0],false⟩,
 some ⟨.func,1,8,[.nilFunc],false⟩,
 none,
 some ⟨.func,1,8,[.nilFunc],false⟩,
 some ⟨.func,1,8,[.nilFunc],false⟩,
 some ⟨.func,1,8,[.nilFunc],false⟩,
 some ⟨.func,1,8,[.nilFunc],false⟩,
 some ⟨.func,1,8,[.nilFunc],false⟩,
 none,
 some ⟨.func,1,8,[.nilFunc],false⟩,
 some ⟨.func,1,8,[.nilFunc],false⟩,
 some ⟨.ptr 110,1,8,[.pointer none],false⟩,
 some ⟨.slice 5,1,24,[.slice none 0 0],false⟩,
 some ⟨.struct [(0,107),(1,108)],2,32,[.pointer none,.slice none 0 0],false⟩,
 some ⟨.struct [(0,107),(1,108)],2,32,[.pointer none,.slice none 0 0],false⟩,
 some ⟨.iface,1,16,[.nilIface],false⟩,
 some ⟨.iface,1,16,[.nilIface],false⟩,
 none,
 some ⟨.func,1,8,[.nilFunc],false⟩,
 some ⟨.func,1,8,[.nilFunc],false⟩,
 some ⟨.func,1,8,[.nilFunc],false⟩,
 some ⟨.func,1,8,[.nilFunc],false⟩,
 some ⟨.slice 206,1,24,[.slice none 0 0],false⟩,
 some ⟨.slice 211,1,24,[.slice none 0 0],false⟩,
 some ⟨.struct [(0,9),(1,118),(2,118),(3,50),(4,25),(5,25),(6,119)],7,160,[.string .empty,.slice none 0 0,.slice none 0 0,.slice none 0 0,.slice none 0 0,.slice none 0 0,.slice none 0 0],false⟩,
 some ⟨.struct [(0,9),(1,118),(2,118),(3,50),(4,25),(5,25),(6,119)],7,160,[.string .empty,.slice none 0 0,.slice none 0 0,.slice none 0 0,.slice none 0 0,.slice none 0 0,.slice none 0 0],false⟩,
 some ⟨.func,1,8,[.nilFunc],false⟩,
 some ⟨.func,1,8,[.nilFunc],false⟩,
 some ⟨.ptr 171,1,8,[.pointer none],false⟩,
 some ⟨.func,1,8,[.nilFunc],false⟩,
 some ⟨.func,1,8,[.nilFunc],false⟩,
 none,
 some ⟨.func,1,8,[.nilFunc],false⟩,
 some ⟨.map 9 2,1,8,[.map none],false⟩,
 some ⟨.func,1,8,[.nilFunc],false⟩,
 some ⟨.ptr 133,1,8,[.pointer none],false⟩,
 some ⟨.struct [(0,96),(6,76),(7,76)],8,152,[.int .i64 0,.string .empty,.int .i64 0,.slice none 0 0,.slice none 0 0,.slice none 0 0,.slice none 0 0,.slice none 0 0],false⟩,
 some ⟨.struct [(0,96),(6,76),(7,76)],8,152,[.int .i64 0,.string .empty,.int .i64 0,.slice none 0 0,.slice none 0 0,.slice none 0 0,.slice none 0 0,.slice none 0 0],false⟩,
 some ⟨.func,1,8,[.nilFunc],false⟩,
 some ⟨.func,1,8,[.nilFunc],false⟩,
 some ⟨.func,1,8,[.nilFunc],false⟩,
 some ⟨.func,1,8,[.nilFunc],false⟩,
 some ⟨.func,1,8,[.nilFunc],false⟩,
 some ⟨.func,1,8,[.nilFunc],false⟩,
 none,
 some ⟨.func,1,8,[.nilFunc],false⟩,
 some ⟨.slice 143,1,24,[.slice none 0 0],false⟩,
 some ⟨.ptr 145,1,8,[.pointer none],false⟩,
 some ⟨.struct [(0,131),(1,4)],2,16,[.pointer none,.bool false],false⟩,
 some ⟨.struct [(0,131),(1,4)],2,16,[.pointer none,.bool false],false⟩,
 some ⟨.func,1,8,[.nilFunc],false⟩,
 some ⟨.func,1,8,[.nilFunc],false⟩,
 some ⟨.func,1,8,[.nilFunc],false⟩,
 some ⟨.func,1,8,[.nilFunc],false⟩,
 some ⟨.func,1,8,[.nilFunc],false⟩,
 some ⟨.func,1,8,[.nilFunc],false⟩,
 some ⟨.func,1,8,[.nilFunc],false⟩,
 some ⟨.func,1,8,[.nilFunc],false⟩,
 some ⟨.map 3 9,1,8,[.map none],false⟩,
 some ⟨.struct [(0,3),(1,3),(2,9)],3,32,[.int .i64 0,.int .i64 0,.string .empty],false⟩,
 some ⟨.struct [(0,3),(1,3),(2,9)],3,32,[.int .i64 0,.int .i64 0,.string .empty],true⟩,
 some ⟨.func,1,8,[.nilFunc],false⟩,
 some ⟨.func,1,8,[.nilFunc],false⟩,
 some ⟨.func,1,8,[.nilFunc],false⟩,
 none,
 some ⟨.func,1,8,[.nilFunc],false⟩,
 some ⟨.func,1,8,[.nilFunc],false⟩,
 some ⟨.ptr 5,1,8,[.pointer none],false⟩,
 some ⟨.func,1,8,[.nilFunc],false⟩,
 some ⟨.func,1,8,[.nilFunc],false⟩,
 some ⟨.ptr 168,1,8,[.pointer none],false⟩,
 some ⟨.struct [(0,31),(1,124),(2,3),(3,53),(10,25),(11,25),(12,3)],13,256,[.slice none 0 0,.pointer none,.int .i64 0,.string .empty,.slice none 0 0,.slice none 0 0,.slice none 0 0,.slice none 0 0,.slice none 0 0,.slice none 0 0,.slice none 0 0,.slice none 0 0,.int .i64 0],false⟩,
 some ⟨.struct [(0,31),(1,124),(2,3),(3,53),(10,25),(11,25),(12,3)],13,256,[.slice none 0 0,.pointer none,.int .i64 0,.string .empty,.slice none 0 0,.slice none 0 0,.slice none 0 0,.slice none 0 0,.slice none 0 0,.slice none 0 0,.slice none 0 0,.slice none 0 0,.int .i64 0],false⟩,
 some ⟨.slice 50,1,24,[.slice none 0 0],false⟩,
 some ⟨.struct [(0,169),(1,65),(2,65),(3,25)],4,96,[.slice none 0 0,.slice none 0 0,.slice none 0 0,.slice none 0 0],false⟩,
 some ⟨.struct [(0,169),(1,65),(2,65),(3,25)],4,96,[.slice none 0 0,.slice none 0 0,.slice none 0 0,.slice none 0 0],false⟩,
 some ⟨.func,1,8,[.nilFunc],false⟩,
 some ⟨.func,1,8,[.nilFunc],false⟩,
 some ⟨.func,1,8,[.nilFunc],false⟩,
 some ⟨.func,1,8,[.nilFunc],false⟩,
 some ⟨.func,1,8,[.nilFunc],false⟩,
 some ⟨.map 9 4,1,8,[.map none],false⟩,
 some ⟨.func,1,8,[.nilFunc],false⟩,
 some ⟨.slice 49,1,24,[.slice none 0 0],false⟩,
 some ⟨.func,1,8,[.nilFunc],false⟩,
 some ⟨.func,1,8,[.nilFunc],false⟩,
 some ⟨.func,1,8,[.nilFunc],false⟩,
 some ⟨.func,1,8,[.nilFunc],false⟩,
 some ⟨.func,1,8,[.nilFunc],false⟩,
 some ⟨.func,1,8,[.nilFunc],false⟩,
 some ⟨.func,1,8,[.nilFunc],false⟩,
 some ⟨.func,1,8,[.nilFunc],false⟩,
 some ⟨.func,1,8,[.nilFunc],false⟩,
 some ⟨.func,1,8,[.nilFunc],false⟩,
 some ⟨.func,1,8,[.nilFunc],false⟩,
 some ⟨.func,1,8,[.nilFunc],false⟩,
 some ⟨.func,1,8,[.nilFunc],false⟩,
 some ⟨.func,1,8,[.nilFunc],false⟩,
 some ⟨.func,1,8,[.nilFunc],false⟩,
 some ⟨.func,1,8,[.nilFunc],false⟩,
 some ⟨.func,1,8,[.nilFunc],false⟩,
 some ⟨.func,1,8,[.nilFunc],false⟩,
 some ⟨.func,1,8,[.nilFunc],false⟩,
 some ⟨.func,1,8,[.nilFunc],false⟩,
 some ⟨.func,1,8,[.nilFunc],false⟩,
 some ⟨.func,1,8,[.nilFunc],false⟩,
 none,
 some ⟨.func,1,8,[.nilFunc],false⟩,
 some ⟨.func,1,8,[.nilFunc],false⟩,
 some ⟨.func,1,8,[.nilFunc],false⟩,
 some ⟨.struct [(0,9),(1,3)],2,24,[.string .empty,.int .i64 0],false⟩,
 some ⟨.func,1,8,[.nilFunc],false⟩,
 some ⟨.slice 260,1,24,[.slice none 0 0],false⟩,
 some ⟨.slice 208,1,24,[.slice none 0 0],false⟩,
 some ⟨.struct [(0,3),(1,9),(2,3),(3,50),(4,208),(5,209)],6,104,[.int .i64 0,.string .empty,.int .i64 0,.slice none 0 0,.slice none 0 0,.slice none 0 0],false⟩,
 some ⟨.struct [(0,3),(1,9),(2,3),(3,50),(4,208),(5,209)],6,104,[.int .i64 0,.string .empty,.int .i64 0,.slice none 0 0,.slice none 0 0,.slice none 0 0],false⟩,
 some ⟨.func,1,8,[.nilFunc],false⟩,
 some ⟨.func,1,8,[.nilFunc],false⟩,
 some ⟨.func,1,8,[.nilFunc],false⟩,
 some ⟨.func,1,8,[.nilFunc],false⟩,
 some ⟨.func,1,8,[.nilFunc],false⟩,
 some ⟨.func,1,8,[.nilFunc],false⟩,
 some ⟨.func,1,8,[.nilFunc],false⟩,
 some ⟨.func,1,8,[.nilFunc],false⟩,
 some ⟨.func,1,8,[.nilFunc],false⟩,
 some ⟨.func,1,8,[.nilFunc],false⟩,
 some ⟨.func,1,8,[.nilFunc],false⟩,
 none,
 some ⟨.func,1,8,[.nilFunc],false⟩,
 some ⟨.func,1,8,[.nilFunc],false⟩,
 some ⟨.int .i64,1,8,[.int .i64 0],false⟩,
 none,
 some ⟨.func,1,8,[.nilFunc],false⟩,
 some ⟨.ptr 252,1,8,[.pointer none],false⟩,
 some ⟨.func,1,8,[.nilFunc],false⟩,
 some ⟨.func,1,8,[.nilFunc],false⟩,
 some ⟨.array 24 5,24,24,[.int .u8 0,.int .u8 0,.int .u8 0,.int .u8 0,.int .u8 0,.int .u8 0,.int .u8 0,.int .u8 0,.int .u8 0,.int .u8 0,.int .u8 0,.int .u8 0,.int .u8 0,.int .u8 0,.int .u8 0,.int .u8 0,.int .u8 0,.int .u8 0,.int .u8 0,.int .u8 0,.int .u8 0,.int .u8 0,.int .u8 0,.int .u8 0],false⟩,
 some ⟨.int .u64,1,8,[.int .u64 0],false⟩,
 some ⟨.func,1,8,[.nilFunc],false⟩,
 some ⟨.func,1,8,[.nilFunc],false⟩,
 none,
 some ⟨.func,1,8,[.nilFunc],false⟩,
 some ⟨.func,1,8,[.nilFunc],false⟩,
 some ⟨.func,1,8,[.nilFunc],false⟩,
 some ⟨.func,1,8,[.nilFunc],false⟩,
 some ⟨.func,1,8,[.nilFunc],false⟩,
 some ⟨.func,1,8,[.nilFunc],false⟩,
 some ⟨.func,1,8,[.nilFunc],false⟩,
 some ⟨.func,1,8,[.nilFunc],false⟩,
 some ⟨.func,1,8,[.nilFunc],false⟩,
 some ⟨.func,1,8,[.nilFunc],false⟩,
 some ⟨.int .u64,1,8,[.int .u64 0],false⟩,
 none,
 some ⟨.func,1,8,[.nilFunc],false⟩,
 some ⟨.func,1,8,[.nilFunc],false⟩,
 some ⟨.struct [(0,9),(1,9),(2,112)],3,48,[.string .empty,.string .empty,.nilIface],false⟩,
 some ⟨.struct [(0,9),(1,9),(2,112)],3,48,[.string .empty,.string .empty,.nilIface],false⟩,
 some ⟨.func,1,8,[.nilFunc],false⟩,
 some ⟨.array 20 233,20,160,[.int .u64 0,.int .u64 0,.int .u64 0,.int .u64 0,.int .u64 0,.int .u64 0,.int .u64 0,.int .u64 0,.int .u64 0,.int .u64 0,.int .u64 0,.int .u64 0,.int .u64 0,.int .u64 0,.int .u64 0,.int .u64 0,.int .u64 0,.int .u64 0,.int .u64 0,.int .u64 0],false⟩,
 some ⟨.int .u32,1,4,[.int .u32 0],false⟩,
 some ⟨.array 65 5,65,65,[.int .u8 0,.int .u8 0,.int .u8 0,.int .u8 0,.int .u8 0,.int .u8 0,.int .u8 0,.int .u8 0,.int .u8 0,.int .u8 0,.int .u8 0,.int .u8 0,.int .u8 0,.int .u8 0,.int .u8 0,.int .u8 0,.int .u8 0,.int .u8 0,.int .u8 0,.int .u8 0,.int .u8 0,.int .u8 0,.int .u8 0,.int .u8 0,.int .u8 0,.int .u8 0,.int .u8 0,.int .u8 0,.int .u8 0,.int .u8 0,.int .u8 0,.int .u8 0,.int .u8 0,.int .u8 0,.int .u8 0,.int .u8 0,.int .u8 0,.int .u8 0,.int .u8 0,.int .u8 0,.int .u8 0,.int .u8 0,.int .u8 0,.int .u8 0,.int .u8 0,.int .u8 0,.int .u8 0,.int .u8 0,.int .u8 0,.int .u8 0,.int .u8 0,.int .u8 0,.int .u8 0,.int .u8 0,.int .u8 0,.int .u8 0,.int .u8 0,.int .u8 0,.int .u8 0,.int .u8 0,.int .u8 0,.int .u8 0,.int .u8 0,.int .u8 0,.int .u8 0],false⟩,
 some ⟨.func,1,8,[.nilFunc],false⟩,
 some ⟨.func,1,8,[.nilFunc],false⟩,
 some ⟨.func,1,8,[.nilFunc],false⟩,
 some ⟨.struct [(0,3),(1,3),(2,9)],3,32,[.int .i64 0,.int .i64 0,.string .empty],false⟩,
 some ⟨.func,1,8,[.nilFunc],false⟩,
 some ⟨.func,1,8,[.nilFunc],false⟩,
 none,
 some ⟨.func,1,8,[.nilFunc],false⟩,
 some ⟨.array 256 5,256,256,[.int .u8 0,.int .u8 0,.int .u8 0,.int .u8 0,.int .u8 0,.int .u8 0,.int .u8 0,.int .u8 0,.int .u8 0,.int .u8 0,.int .u8 0,.int .u8 0,.int .u8 0,.int .u8 0,.int .u8 0,.int .u8 0,.int .u8 0,.int .u8 0,.int .u8 0,.int .u8 0,.int .u8 0,.int .u8 0,.int .u8 0,.int .u8 0,.int .u8 0,.int .u8 0,.int .u8 0,.int .u8 0,.int .u8 0,.int .u8 0,.int .u8 0,.int .u8 0,.int .u8 0,.int .u8 0,.int .u8 0,.int .u8 0,.int .u8 0,.int .u8 0,.int .u8 0,.int .u8 0,.int .u8 0,.int .u8 0,.int .u8 0,.int .u8 0,.int .u8 0,.int .u8 0,.int .u8 0,.int .u8 0,.int .u8 0,.int .u8 0,.int .u8 0,.int .u8 0,.int .u8 0,.int .u8 0,.int .u8 0,.int .u8 0,.int .u8 0,.int .u8 0,.int .u8 0,.int .u8 0,.int .u8 0,.int .u8 0,.int .u8 0,.int .u8 0,.int .u8 0,.int .u8 0,.int .u8 0,.int .u8 0,.int .u8 0,.int .u8 0,.int .u8 0,.int .u8 0,.int .u8 0,.int .u8 0,.int .u8 0,.int .u8 0,.int .u8 0,.int .u8 0,.int .u8 0,.int .u8 0,.int .u8 0,.int .u8 0,.int .u8 0,.int .u8 0,.int .u8 0,.int .u8 0,.int .u8 0,.int .u8 0,.int .u8 0,.int .u8 0,.int .u8 0,.int .u8 0,.int .u8 0,.int .u8 0,.int .u8 0,.int .u8 0,.int .u8 0,.int .u8 0,.int .u8 0,.int .u8 0,.int .u8 0,.int .u8 0,.int .u8 0,.int .u8 0,.int .u8 0,.int .u8 0,.int .u8 0,.int .u8 0,.int .u8 0,.int .u8 0,.int .u8 0,.int .u8 0,.int .u8 0,.int .u8 0,.int .u8 0,.int .u8 0,.int .u8 0,.int .u8 0,.int .u8 0,.int .u8 0,.int .u8 0,.int .u8 0,.int .u8 0,.int .u8 0,.int .u8 0,.int .u8 0,.int .u8 0,.int .u8 0,.int .u8 0,.int .u8 0,.int .u8 0,.int .u8 0,.int .u8 0,.int .u8 0,.int .u8 0,.int .u8 0,.int .u8 0,.int .u8 0,.int .u8 0,.int .u8 0,.int .u8 0,.int .u8 0,.int .u8 0,.int .u8 0,.int .u8 0,.int .u8 0,.int .u8 0,.int .u8 0,.int .u8 0,.int .u8 0,.int .u8 0,.int .u8 0,.int .u8 0,.int .u8 0,.int .u8 0,.int .u8 0,.int .u8 0,.int .u8 0,.int .u8 0,.int .u8 0,.int .u8 0,.int .u8 0,.int .u8 0,.int .u8 0,.int .u8 0,.int .u8 0,.int .u8 0,.int .u8 0,.int .u8 0,.int .u8 0,.int .u8 0,.int .u8 0,.int .u8 0,.int .u8 0,.int .u8 0,.int .u8 0,.int .u8 0,.int .u8 0,.int .u8 0,.int .u8 0,.int .u8 0,.int .u8 0,.int .u8 0,.int .u8 0,.int .u8 0,.int .u8 0,.int .u8 0,.int .u8 0,.int .u8 0,.int .u8 0,.int .u8 0,.int .u8 0,.int .u8 0,.int .u8 0,.int .u8 0,.int .u8 0,.int .u8 0,.int .u8 0,.int .u8 0,.int .u8 0,.int .u8 0,.int .u8 0,.int .u8 0,.int .u8 0,.int .u8 0,.int .u8 0,.int .u8 0,.int .u8 0,.int .u8 0,.int .u8 0,.int .u8 0,.int .u8 0,.int .u8 0,.int .u8 0,.int .u8 0,.int .u8 0,.int .u8 0,.int .u8 0,.int .u8 0,.int .u8 0,.int .u8 0,.int .u8 0,.int .u8 0,.int .u8 0,.int .u8 0,.int .u8 0,.int .u8 0,.int .u8 0,.int .u8 0,.int .u8 0,.int .u8 0,.int .u8 0,.int .u8 0,.int .u8 0,.int .u8 0,.int .u8 0,.int .u8 0,.int .u8 0,.int .u8 0,.int .u8 0,.int .u8 0,.int .u8 0,.int .u8 0,.int .u8 0,.int .u8 0,.int .u8 0,.int .u8 0,.int .u8 0,.int .u8 0,.int .u8 0,.int .u8 0,.int .u8 0,.int .u8 0,.int .u8 0,.int .u8 0,.int .u8 0],false⟩,
 some ⟨.struct [(0,5),(1,5)],2,2,[.int .u8 0,.int .u8 0],false⟩,
 some ⟨.struct [(0,5),(1,5)],2,2,[.int .u8 0,.int .u8 0],false⟩,
 some ⟨.array 16 267,32,32,[.int .u8 0,.int .u8 0,.int .u8 0,.int .u8 0,.int .u8 0,.int .u8 0,.int .u8 0,.int .u8 0,.int .u8 0,.int .u8 0,.int .u8 0,.int .u8 0,.int .u8 0,.int .u8 0,.int .u8 0,.int .u8 0,.int .u8 0,.int .u8 0,.int .u8 0,.int .u8 0,.int .u8 0,.int .u8 0,.int .u8 0,.int .u8 0,.int .u8 0,.int .u8 0,.int .u8 0,.int .u8 0,.int .u8 0,.int .u8 0,.int .u8 0,.int .u8 0],false⟩,
 none,
 some ⟨.func,1,8,[.nilFunc],false⟩,
 some ⟨.func,1,8,[.nilFunc],false⟩,
 some ⟨.ptr 274,1,8,[.pointer none],false⟩,
 some ⟨.struct [(0,9)],1,16,[.string .empty],false⟩,
 some ⟨.struct [(0,9)],1,16,[.string .empty],false⟩,
 some ⟨.func,1,8,[.nilFunc],false⟩,
 some ⟨.array 32 5,32,32,[.int .u8 0,.int .u8 0,.int .u8 0,.int .u8 0,.int .u8 0,.int .u8 0,.int .u8 0,.int .u8 0,.int .u8 0,.int .u8 0,.int .u8 0,.int .u8 0,.int .u8 0,.int .u8 0,.int .u8 0,.int .u8 0,.int .u8 0,.int .u8 0,.int .u8 0,.int .u8 0,.int .u8 0,.int .u8 0,.int .u8 0,.int .u8 0,.int .u8 0,.int .u8 0,.int .u8 0,.int .u8 0,.int .u8 0,.int .u8 0,.int .u8 0,.int .u8 0],false⟩,
 some ⟨.array 64 5,64,64,[.int .u8 0,.int .u8 0,.int .u8 0,.int .u8 0,.int .u8 0,.int .u8 0,.int .u8 0,.int .u8 0,.int .u8 0,.int .u8 0,.int .u8 0,.int .u8 0,.int .u8 0,.int .u8 0,.int .u8 0,.int .u8 0,.int .u8 0,.int .u8 0,.int .u8 0,.int .u8 0,.int .u8 0,.int .u8 0,.int .u8 0,.int .u8 0,.int .u8 0,.int .u8 0,.int .u8 0,.int .u8 0,.int .u8 0,.int .u8 0,.int .u8 0,.int .u8 0,.int .u8 0,.int .u8 0,.int .u8 0,.int .u8 0,.int .u8 0,.int .u8 0,.int .u8 0,.int .u8 0,.int .u8 0,.int .u8 0,.int .u8 0,.int .u8 0,.int .u8 0,.int .u8 0,.int .u8 0,.int .u8 0,.int .u8 0,.int .u8 0,.int .u8 0,.int .u8 0,.int .u8 0,.int .u8 0,.int .u8 0,.int .u8 0,.int .u8 0,.int .u8 0,.int .u8 0,.int .u8 0,.int .u8 0,.int .u8 0,.int .u8 0,.int .u8 0],false⟩,
 some ⟨.struct [(0,17),(1,17),(2,17),(3,9)],4,40,[.pointer none,.pointer none,.pointer none,.string .empty],false⟩,
 some ⟨.struct [(0,17),(1,17),(2,17),(3,9)],4,40,[.pointer none,.pointer none,.pointer none,.string .empty],false⟩,
 none,
 none,
 none,
 some ⟨.func,1,8,[.nilFunc],false⟩,
 some ⟨.int .u8,1,1,[.int .u8 0],false⟩,
 some ⟨.int .u8,1,1,[.int .u8 0],false⟩,
 some ⟨.func,1,8,[.nilFunc],false⟩,
 some ⟨.int .i32,1,4,[.int .i32 0],false⟩,
 some ⟨.int .i32,1,4,[.int .i32 0],false⟩,
 some ⟨.struct [(0,12),(1,12),(2,255),(3,284),(4,5),(5,5),(6,285),(7,286),(8,163),(9,287),(10,288)],11,48,[.int .u64 0,.int .u64 0,.int .u32 0,.int .u8 0,.int .u8 0,.int .u8 0,.int .u8 0,.nilFunc,.pointer none,.int .i32 0,.int .i32 0],false⟩,
 some ⟨.struct [(0,12),(1,12),(2,255),(3,284),(4,5),(5,5),(6,285),(7,286),(8,163),(9,287),(10,288)],11,48,[.int .u64 0,.int .u64 0,.int .u32 0,.int .u8 0,.int .u8 0,.int .u8 0,.int .u8 0,.nilFunc,.pointer none,.int .i32 0,.int .i32 0],false⟩]
set_option maxRecDepth 100000 in
theorem JbG:checkAll Go.Proofs.Tryz.prog tyL tyL 0=true:=by kernel_rfl
-- types:1=func() 2=int64 3=int 4=bool 5=uint8 6=abi.BoundsErrorCode 8=runtime.boundsError 9=string 10=runtime.errorString 11=runtime.plainError 12=uintptr 13=struct_{_msg_string;_addr_uintptr_} 14=runtime.errorAddressString 15=RuntimeError 16=RuntimeError 17=Align 18=struct_{_typ_*abi.Type_} 19=maps.unhashableTypeError 20=interface_{} 21=int32 22=[]laws.Class 23=struct_{_Classes_[]laws.Class_} 24=laws.Machine 25=[]int 26=func(laws.Machine,_int)_int 28=func(impl.Machine,_int,_[]int,_[]int)_([]int,_[]int,_int) 29=[]impl.Class 30=struct_{_Classes_[]impl.Class_} 31=impl.Machine 32=func(laws.Machine)_impl.Machine 33=func([]int)_[]int 34=func([]int,_[]int)_bool 35=func(impl.Machine,_impl.Machine)_bool 36=func(impl.Machine,_int)_int 37=func([]int,_int)_int 38=func(laws.Machine,_int,_[]int,_[]int)_bool 39=func(impl.Machine)_impl.Machine 40=func(laws.Machine)_bool 42=func(string)_(impl.Machine,_int) 43=func(string)_bool 44=func(string,_string)_string 45=func(string,_string)_bool 46=func([]laws.Class,_int)_int 47=func(impl.Machine,_int)_bool 48=func(impl.Machine)_[]int 49=[]impl.Slot 50=[]string 51=[]impl.Stm 53=impl.Class 54=func([]int)_bool 55=func([]laws.Class)_[]impl.Class 56=loop.example/s0043/impl.step 58=func(impl.Machine)_(*impl.engine,_bool) 59=struct_{_cells_[]int;_bound_[]int_} 60=impl.sizes 61=*impl.sizes 62=[][]*impl.branch 64=impl.engine 65=[][]int 66=func(int)_bool 67=[]int64 68=func([]int)_[]int64 69=func(int,_[]int64,_[]int64)_[]int64 70=func([]int64)_[]int 71=func([]impl.Class,_[]impl.Class)_bool 72=func([]impl.Class,_int)_int 73=func(impl.Machine)_bool 75=func([]impl.Stm)_([]impl.Stm,_bool) 76=[]*impl.branch 78=func([]impl.Stm)_([]*impl.branch,_bool) 79=func([]*impl.branch,_[]impl.Stm)_[]impl.Stm 80=func([]*impl.branch)_[]*impl.branch 81=func(string)_impl.Machine 82=func(impl.Machine)_string 83=func()_(impl.Machine,_int) 84=*impl.Class 85=map[string]int 86=func(string,_string)_[]string 87=struct_{_Name_string;_Type_int_} 88=impl.Slot 90=func(string)_(int,_bool) 91=[]impl.Item 93=func([]string)_([]impl.Item,_bool) 94=[][]impl.Item 96=impl.Stm 97=func()_bool 99=func(string,_[]int)_([][]int,_int) 100=func([]impl.Slot)_[]int 101=func(int)_string 102=func(impl.Machine,_int)_[]int 103=func([][]int,_[]int)_string 105=func(string,_[]int)_([][]int,_int,_bool) 106=func(impl.Machine,_int,_[]int)_[]int 107=strings.grow 108=[]uint8 109=struct_{_addr_*strings.Builder;_buf_[]uint8_} 110=strings.Builder 111=interface_{_Error()_string_} 112=error 114=func(string)_(int,_error) 115=func([]int,_[]int)_string 116=func()_string 117=func(laws.Class,_int)_int 118=[]laws.Slot 119=[]laws.Stm 121=laws.Class 122=func(int)_int 124=*spec.l3Plan 125=func(impl.Machine)_*spec.l3Plan 126=func(laws.Class)_impl.Class 128=func(impl.Machine)_(*impl.sizes,_bool) 129=map[string]int64 130=func([]*impl.branch) 131=*impl.branch 133=impl.branch 134=func([]impl.Item,_map[string]int64,_[]int64)_int64 135=func(impl.Class,_impl.Class)_bool 136=func([]impl.Slot,_int)_int 137=func([]string,_int)_int 138=func([]impl.Stm,_int)_int 139=func([]impl.Item)_[]impl.Item 141=func([]impl.Stm,_int)_(int,_int) 142=[]*impl.open 143=*impl.open 144=struct_{_b_*impl.branch;_els_bool_} 145=impl.open 146=func(*impl.branch) 147=func(impl.Stm)_impl.Stm 148=func(string,_uint8)_[]string 149=func([]string,_string)_int 150=func(string)_int 151=func([]string)_[]impl.Item 152=func(impl.Stm)_string 153=func(string,_string,_int,_int)_[]string 154=map[int]string 155=struct_{_Op_int;_Val_int;_Name_string_} 156=impl.Item 157=func(string,_[]impl.Slot) 158=func(*strings.Builder,_[]impl.Item) 159=func(string,_int)_(int,_bool) 161=func(string,_[]int)_([]int,_bool) 162=func([]string,_string)_string 163=*uint8 164=func([]laws.Slot,_int)_int 165=func([]laws.Stm,_int)_int 166=loop.example/s0043/spec.put 168=spec.l3Run 169=[][]string 171=spec.l3Plan 172=func(int,_int) 173=func(impl.Class)_[]string 174=func([]laws.Slot)_[]impl.Slot 175=func([]string)_[]string 176=func([]laws.Stm)_[]impl.Stm 177=map[string]bool 178=func(string,_int)_bool 179=[][]impl.Slot 180=func([]impl.Item,_map[string]int,_int)_bool 181=func([]*impl.branch)_int 182=func(int64)_int64 183=func(bool)_int64 184=func(int,_int64,_int64)_int64 185=func([]impl.Slot,_[]impl.Slot)_bool 186=func([]string,_[]string)_bool 187=func([]impl.Stm,_[]impl.Stm)_bool 188=func([]impl.Item,_int)_int 189=func([][]impl.Item,_int)_int 190=func(impl.Machine,_impl.Class,_impl.Stm)_bool 191=func([]impl.Stm,_int)_bool 192=func(impl.Stm,_string)_bool 193=func(impl.Class,_[]impl.Stm,_[]int)_int 194=func(uint8)_bool 195=func(string)_impl.Item 196=func([]impl.Item)_string 197=func(string,_int)_[]string 198=func(string,_string)_int 199=func(string,_string,_int,_int,_error)_error 200=func(bool)_int 201=func(int64,_int)_string 203=func(unsafe.Pointer)_unsafe.Pointer 204=func(int) 205=func(laws.Slot,_int)_int 206=laws.Slot 207=func(laws.Stm,_int)_int 208=[]laws.Item 209=[][]laws.Item 211=laws.Stm 212=func(string,_int) 213=func(laws.Slot)_impl.Slot 214=func(laws.Stm)_impl.Stm 215=func(impl.Item)_bool 216=func([]impl.Item)_bool 217=func(impl.Slot,_impl.Slot)_bool 218=func(impl.Stm,_impl.Stm)_bool 219=func(impl.Class,_string)_bool 220=func(impl.Class,_[]impl.Item)_bool 221=func([]string,_string)_bool 222=func(impl.Item)_string 224=func(string)_(int32,_int) 225=func(string,_uint8)_int 226=strconv.Error 228=func(string,_int,_int)_(int64,_error) 229=Error 230=func(string,_string)_*strconv.NumError 231=func(string,_string,_int)_*strconv.NumError 232=[24]uint8 233=uint64 234=func(uint64)_int 235=func([]uint8,_uint64) 237=func([]uint8,_uint64,_int,_bool,_bool)_([]uint8,_string) 238=func([]laws.Item,_int)_int 239=func([][]laws.Item,_int)_int 240=func(int,_[]int)_int 241=func([]laws.Item)_[]impl.Item 242=func([][]laws.Item)_[][]impl.Item 243=func([]impl.Item,_[]impl.Item)_bool 244=func([][]impl.Item,_[][]impl.Item)_bool 245=func()_[]string 246=func([]impl.Item,_int)_bool 247=uint 249=func(string,_int,_int)_(uint64,_error) 250=func(string)_string 251=struct_{_Func_string;_Num_string;_Err_error_} 252=strconv.NumError 253=func(string)_error 254=[20]uint64 255=uint32 256=[65]uint8 257=func(uint)_int 258=func(int)_[]uint8 259=func(laws.Item,_int)_int 260=laws.Item 261=func(laws.Item)_impl.Item 262=func(impl.Item,_impl.Item)_bool 264=func(int)_([]string,_[]int) 265=[256]uint8 266=struct_{_lo_uint8;_hi_uint8_} 267=utf8.acceptRange 268=[16]utf8.acceptRange 270=func(string)_(uint32,_uint32) 271=func(uint8)_uint8 272=Error 273=struct_{_s_string_} 274=errors.errorString 275=func(uint32)_int 276=[32]uint8 277=[64]uint8 279=runtime.TypeAssertionError 283=func()_int 284=abi.TFlag 285=abi.Kind 286=func(unsafe.Pointer,_unsafe.Pointer)_bool 287=abi.NameOff 288=abi.TypeOff 290=abi.Type
end Go.Pm
/- Part of the proof: Cf. -/
namespace Go.Pm
def kwBytes:List (List UInt8):=[[97,110,100],[98,111,111,108],[101,108,115,101],[102,97,108,115,101],[102,98,121],[105,102],[105,110,116],[108,101,116],[109,101,114,103,101],[109,111,100],[110,111,100,101],[110,111,116],[111,114],[114,101,116,117,114,110,115],[116,101,108],[116,104,101,110],[116,114,117,101],[118,97,114],[119,104,101,110],[119,104,101,110,111,116],[120,111,114]]
def kwS:List ByteArray:=kwBytes.map fun l=>⟨l.toArray⟩
def gl (g:Nat):Option (List D):=if g=1 then some [.mp .string (wordMap kwS)]else none
noncomputable def X:Cfg:=mkCfg Go.Proofs.Tryz.prog gl tyL JbG
theorem Jr:X.P.follows .mixedOrders=true:=by kernel_rfl
@[simp] theorem X_T (t:TypeId):X.T t=look tyL t:=rfl
@[simp] theorem X_G (g:Nat):X.G g=gl g:=rfl
end Go.Pm
/- Part of the proof: En4. -/
namespace Go.Pm
open Go.Proofs
section
variable {H:Type} {en:TypeId×Value→H} {w:World} {base:Nat} {spare:Nat→Bool} {held:Bool}
theorem rdStr:Rd en Tryz.prog w base spare held 9 eStr dStr:=J0A id (fun _=>rfl) (fun _ h=>h) (J8x (by kernel_rfl))
theorem rdStrs:Rd en Tryz.prog w base spare held 50 (fun l:List ByteArray=>[.im (l.map eStr)]) (dL dStr):=J0A id (fun _=>rfl) (fun _ h=>h) (J10 (sz:=1) (by kernel_rfl) rdStr (by kernel_rfl) (by decide) (fun _=>rfl))
theorem rdInt:Rd en Tryz.prog w base spare held 3 eNum (fun _=>True):=Jc7 (by kernel_rfl)
theorem rdItm:Rd en Tryz.prog w base spare held 260 eItm dItm:=
 J0A (fun p:Int×Int×ByteArray×Unit=>(⟨p.1,p.2.1,p.2.2.1⟩:Itm)) (fun _=>rfl) (fun _ h=>h.2.2.1)
  (J18 (n:=3) (by kernel_rfl) (by kernel_rfl) (fun _=>rfl) (JK 1 rdInt (fun _=>rfl) (JK 1 rdInt (fun _=>rfl) (JK 1 rdStr (fun _=>rfl) J31))))
theorem rdItms:Rd en Tryz.prog w base spare held 208 eItms (dL dItm):=J0A id (fun _=>rfl) (fun _ h=>h) (J10 (sz:=3) (by kernel_rfl) rdItm (by kernel_rfl) (by decide) (fun _=>rfl))
theorem rdItmss:Rd en Tryz.prog w base spare held 209 (fun l:List (List Itm)=>[.im (l.map eItms)]) (dL (dL dItm)):=J0A id (fun _=>rfl) (fun _ h=>h) (J10 (sz:=1) (by kernel_rfl) rdItms (by kernel_rfl) (by decide) (fun _=>rfl))
theorem rdNums:Rd en Tryz.prog w base spare held 25 (fun l:List Int=>[.im (l.map eNum)]) dNums:=J0A id (fun _=>rfl) (fun _ h=>h.1) (J10 (sz:=1) (by kernel_rfl) rdInt (by kernel_rfl) (by decide) (fun _=>rfl))
theorem rdSlt:Rd en Tryz.prog w base spare held 206 eSlt dSlt:=
 J0A (fun p:ByteArray×Int×Unit=>(⟨p.1,p.2.1⟩:Slt)) (fun _=>rfl) (fun _ h=>h.1)
  (J18 (n:=2) (by kernel_rfl) (by kernel_rfl) (fun _=>rfl) (JK 1 rdStr (fun _=>rfl) (JK 1 rdInt (fun _=>rfl) J31)))
theorem rdSlts:Rd en Tryz.prog w base spare held 118 (fun l:List Slt=>[.im (l.map eSlt)]) (dL dSlt):=J0A id (fun _=>rfl) (fun _ h=>h) (J10 (sz:=2) (by kernel_rfl) rdSlt (by kernel_rfl) (by decide) (fun _=>rfl))
theorem rdSm:Rd en Tryz.prog w base spare held 211 eSm dSm:=
 J0A (fun p:Int×ByteArray×Int×List ByteArray×List Itm×List (List Itm)×Unit=>(⟨p.1,p.2.1,p.2.2.1,p.2.2.2.1,p.2.2.2.2.1,p.2.2.2.2.2.1⟩:Sm)) (fun _=>rfl) (fun _ h=>⟨h.2.1,h.2.2.2.1,h.2.2.2.2.1,h.2.2.2.2.2.1⟩)
  (J18 (n:=6) (by kernel_rfl) (by kernel_rfl) (fun _=>rfl) (JK 1 rdInt (fun _=>rfl) (JK 1 rdStr (fun _=>rfl) (JK 1 rdInt (fun _=>rfl) (JK 1 rdStrs (fun _=>rfl) (JK 1 rdItms (fun _=>rfl) (JK 1 rdItmss (fun _=>rfl) J31)))))))
theorem rdSms:Rd en Tryz.prog w base spare held 119 (fun l:List Sm=>[.im (l.map eSm)]) (dL dSm):=J0A id (fun _=>rfl) (fun _ h=>h) (J10 (sz:=6) (by kernel_rfl) rdSm (by kernel_rfl) (by decide) (fun _=>rfl))
theorem rdCls:Rd en Tryz.prog w base spare held 121 eCls dCls:=
 J0A (fun p:ByteArray×List Slt×List Slt×List ByteArray×List Int×List Int×List Sm×Unit=>(⟨p.1,p.2.1,p.2.2.1,p.2.2.2.1,p.2.2.2.2.1,p.2.2.2.2.2.1,p.2.2.2.2.2.2.1⟩:Cls)) (fun _=>rfl) (fun _ h=>⟨h.1,h.2.1,h.2.2.1,h.2.2.2.1,h.2.2.2.2.1,h.2.2.2.2.2.1,h.2.2.2.2.2.2.1⟩)
  (J18 (n:=7) (by kernel_rfl) (by kernel_rfl) (fun _=>rfl) (JK 1 rdStr (fun _=>rfl) (JK 1 rdSlts (fun _=>rfl) (JK 1 rdSlts (fun _=>rfl) (JK 1 rdStrs (fun _=>rfl) (JK 1 rdNums (fun _=>rfl) (JK 1 rdNums (fun _=>rfl) (JK 1 rdSms (fun _=>rfl) J31))))))))
theorem rdClss:Rd en Tryz.prog w base spare held 22 (fun l:List Cls=>[.im (l.map eCls)]) (dL dCls):=J0A id (fun _=>rfl) (fun _ h=>h) (J10 (sz:=7) (by kernel_rfl) rdCls (by kernel_rfl) (by decide) (fun _=>rfl))
theorem rdMachine:Rd en Tryz.prog w base spare held 24 (fun l:List Cls=>[.im (l.map eCls)]) (dL dCls):=
 J0A (fun p:List Cls×Unit=>p.1) (fun _=>rfl) (fun _ h=>h.1)
  (J18 (n:=1) (by kernel_rfl) (by kernel_rfl) (fun _=>rfl) (JK 1 rdClss (fun _=>rfl) J31))
end
def kwLaid:List (Lit×DataW Unit):=mapEnts YtdjanhhljinokaaGreatDoor.Rows.laid_loop_example_s0043_impl_keywords
theorem JbN:litMap kwLaid=wordMap kwS:=by kernel_rfl
theorem JbO:((litMap kwLaid).all fun y=>keyFit .string y.1)=true:=by kernel_rfl
theorem Jbj:distB ((litMap kwLaid).map (·.1))=true:=by kernel_rfl
theorem Jbh {W:World} (h:laidMetH Tryz.prog [("loop.example/s0043/impl.keywords",YtdjanhhljinokaaGreatDoor.Rows.laid_loop_example_s0043_impl_keywords)] W):GRel X (FW W):=by
 rw[MakeChecks.laidMetH_plain _ _ _ (by kernel_rfl)]at h
 obtain⟨ps,⟨g0,t0,cs0,f0,p0,q0,hg0,ht0,hv0,hd0,_,_⟩,_,_⟩:=h
 have ht:t0=177:=(Option.some.inj ((show(Tryz.prog.globals[1]?).map (·.type)=some 177 by kernel_rfl).symm.trans (by rw[←Option.some.inj ((show Tryz.prog.globalNamed "loop.example/s0043/impl.keywords"=some 1 by kernel_rfl).symm.trans hg0)]at ht0;exact ht0))).symm
 subst ht
 obtain⟨v,hc,ho,hx⟩:=Jau (kk:=.string) (k:=9) (e:=4) (by kernel_rfl) (.inl (by kernel_rfl)) (.inl (by kernel_rfl)) JbO Jbj (show DataW.trod _ _ _ _ _ _ _ _ _=some (.map kwLaid,p0)from hd0)
 rw[JbN]at hx
 have key:=JaS hg0 (show Tryz.prog.globalNamed "loop.example/s0043/impl.keywords"=some 1 by kernel_rfl) hv0 hc ho hx
 intro g cells hg
 simp only[X_G,gl]at hg
 split at hg
 ·rename_i hg'
  subst hg'
  cases hg
  exact key
 ·cases hg
end Go.Pm
