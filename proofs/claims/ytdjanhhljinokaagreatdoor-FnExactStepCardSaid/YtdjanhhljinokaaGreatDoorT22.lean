/- Part of the proof: Se2. -/
import Derived.Test.YtdjanhhljinokaaGreatDoorT13
import Derived.Test.YtdjanhhljinokaaGreatDoorT12
import Derived.Test.YtdjanhhljinokaaGreatDoorT10
import Derived.Test.YtdjanhhljinokaaGreatDoorT21
import Derived.Test.YtdjanhhljinokaaGreatDoorT8
import Derived.Test.YtdjanhhljinokaaGreatDoorT9
import Derived.Test.YtdjanhhljinokaaGreatDoorT17
set_option linter.unusedVariables false
set_option linter.unusedSimpArgs false
namespace Go.Pm
attribute [local irreducible] AR Ok inBlock andThen endQ aoper
set_option maxHeartbeats 1000000
open Go.Proofs
theorem J3m {v:Int} (h:-9223372036854775808≤v∧v≤9223372036854775807):IntKind.i64.wrap v=v:=J1n h.1 h.2
theorem J26 (v:Int):PFun X 120 [vi v] (vi (w32 v)):=by
 have h:=J0s v
 unfold inR at h
 have e:IntKind.i64.wrap (IntKind.i32.wrap v)=w32 v:=by
  show IntKind.i64.wrap (w32 v)=w32 v
  exact J3m ⟨by omega,by omega⟩
 refine Jn Tryz.func120 rfl (by decide) Tryz.ntmps120 Tryz.results120 (by simp) rfl rfl ?_
 repeat' first|refine Z1 ?_|refine Z2 ?_|refine Z3 ?_|refine Z4 ?_|refine Z5 ?_|refine Z6 ?_|refine Z7 ?_|refine Z8 ?_|refine Z9 ?_|refine Za (fun hc=>?_) (fun hc=>?_)|refine Zb (fun hc=>?_) (fun hc=>?_)|refine Ycv ?_|refine Zd ?_|refine Ze ?_|refine Zf ?_|refine Zg ?_|refine Zh ?_|refine Zi ?_|refine Zj ?_|refine Zk ?_|refine Zl ?_|refine Zm ?_|refine Zn (fun hc=>?_) (fun hc=>?_)|refine Zo ?_|refine J6 ?_|refine Jf ?_|refine Zp ?_|refine Zq ?_|refine Zr (fun hc=>?_) (fun hc=>?_)|refine J5 ?_|refine Jh ?_|refine J8 ?_|refine Jb ?_|refine J3 ?_|refine Ja ?_|refine Zs ?_|refine Zv ?_|refine J7 ?_|refine J9 ?_|refine J4 ?_|refine Zt ?_|refine Zu ?_
 exact congrArg (fun z=>AEnd.ret (vi z)) e
theorem J0P (b:Bool):PFun X 121 [vb b] (vi (bitI b)):=by
 refine Jn Tryz.func121 rfl (by decide) Tryz.ntmps121 Tryz.results121 (by simp) rfl rfl ?_
 cases b with
 |true=>
  repeat' first|refine Z1 ?_|refine Z2 ?_|refine Z3 ?_|refine Z4 ?_|refine Z5 ?_|refine Z6 ?_|refine Z7 ?_|refine Z8 ?_|refine Z9 ?_|refine Za (fun hc=>?_) (fun hc=>?_)|refine Zb (fun hc=>?_) (fun hc=>?_)|refine Zd ?_|refine Ze ?_|refine Zf ?_|refine Zg ?_|refine Zh ?_|refine Zi ?_|refine Zj ?_|refine Zk ?_|refine Zl ?_|refine Zm ?_|refine Zn (fun hc=>?_) (fun hc=>?_)|refine Zo ?_|refine J6 ?_|refine Jf ?_|refine Zp ?_|refine Zq ?_|refine Zr (fun hc=>?_) (fun hc=>?_)|refine J5 ?_|refine Jh ?_|refine J8 ?_|refine Jb ?_|refine J3 ?_|refine Ja ?_|refine Zs ?_|refine Zv ?_|refine J7 ?_|refine J9 ?_|refine J4 ?_|refine Zt ?_|refine Zu ?_
  rfl
 |false=>
  repeat' first|refine Z1 ?_|refine Z2 ?_|refine Z3 ?_|refine Z4 ?_|refine Z5 ?_|refine Z6 ?_|refine Z7 ?_|refine Z8 ?_|refine Z9 ?_|refine Za (fun hc=>?_) (fun hc=>?_)|refine Zb (fun hc=>?_) (fun hc=>?_)|refine Zd ?_|refine Ze ?_|refine Zf ?_|refine Zg ?_|refine Zh ?_|refine Zi ?_|refine Zj ?_|refine Zk ?_|refine Zl ?_|refine Zm ?_|refine Zn (fun hc=>?_) (fun hc=>?_)|refine Zo ?_|refine J6 ?_|refine Jf ?_|refine Zp ?_|refine Zq ?_|refine Zr (fun hc=>?_) (fun hc=>?_)|refine J5 ?_|refine Jh ?_|refine J8 ?_|refine Jb ?_|refine J3 ?_|refine Ja ?_|refine Zs ?_|refine Zv ?_|refine J7 ?_|refine J9 ?_|refine J4 ?_|refine Zt ?_|refine Zu ?_
  rfl
theorem J8Y {a b:Int} (ha:inR a) (hb:inR b):-9223372036854775808≤a*b∧a*b≤9223372036854775807:=by
 unfold inR at ha hb
 have h1:(a*b).natAbs≤2147483648*2147483648:=by
  rw[Int.natAbs_mul]
  exact Nat.mul_le_mul (by omega) (by omega)
 omega
theorem J7W {a b:Int} (ha:inR a):-2147483648≤a.tdiv b∧a.tdiv b≤2147483648:=by
 unfold inR at ha
 have h1:(a.tdiv b).natAbs≤a.natAbs:=by rw[Int.natAbs_tdiv];exact Nat.div_le_self _ _
 omega
theorem J9N {a b:Int} (ha:inR a) (hb:inR b) (h0:b≠0):-9223372036854775808≤b*(a.tdiv b)∧b*(a.tdiv b)≤9223372036854775807:=by
 have h1:=J1J ha hb h0
 have h2:=Int.mul_tdiv_add_tmod a b
 unfold inR at *
 omega
theorem JaC (op a b:Int) (h6:6≤op) (h19:op≤19) (ha:inR a) (hb:inR b):PFun X 122 [vi op,vi a,vi b] (vi (ap2 op a b)):=by
 have ha2:-2147483648≤a∧a≤2147483647:=ha
 have hb2:-2147483648≤b∧b≤2147483647:=hb
 have hmul:=J8Y ha hb
 have hdiv:=J7W (b:=b) ha
 refine Jn Tryz.func122 rfl (by decide) Tryz.ntmps122 Tryz.results122 (by simp) rfl rfl ?_
 by_cases k6:op=6
 ·have d6:decide (op=6)=true:=J0 k6
  repeat' first|refine Z1 ?_|refine Z2 ?_|refine Z3 ?_|refine Z4 ?_|refine Z5 ?_|refine Z6 ?_|refine Z7 ?_|refine Z8 ?_|refine Z9 ?_|refine Za (fun hc=>?_) (fun hc=>?_)|refine Zb (fun hc=>?_) (fun hc=>?_)|refine Zc (J26 (a+b)) ?_|refine Zd ?_|refine Ze ?_|refine Zf ?_|refine Zg ?_|refine Zh ?_|refine Zi ?_|refine Zj ?_|refine Zk ?_|refine Zl ?_|refine Zm ?_|refine Zn (fun hc=>?_) (fun hc=>?_)|refine Zo ?_|refine J6 ?_|refine Jf ?_|refine Zp ?_|refine Zq ?_|refine Zr (fun hc=>?_) (fun hc=>?_)|refine J5 ?_|refine Jh ?_|refine J8 ?_|refine Jb ?_|refine J3 ?_|refine Ja ?_|refine Zs ?_|refine Zv ?_|refine J7 ?_|refine J9 ?_|refine J4 ?_|refine Zt ?_|refine Zu ?_
  refine congrArg (fun z=>AEnd.ret (vi z)) ?_
  unfold ap2;rw[if_pos k6]
 have n6:¬op=6:=k6
 have e6:decide (op=6)=false:=J1 k6
 clear k6
 by_cases k7:op=7
 ·have d7:decide (op=7)=true:=J0 k7
  repeat' first|refine Z1 ?_|refine Z2 ?_|refine Z3 ?_|refine Z4 ?_|refine Z5 ?_|refine Z6 ?_|refine Z7 ?_|refine Z8 ?_|refine Z9 ?_|refine Za (fun hc=>?_) (fun hc=>?_)|refine Zb (fun hc=>?_) (fun hc=>?_)|refine Zc (J26 (a-b)) ?_|refine Zd ?_|refine Ze ?_|refine Zf ?_|refine Zg ?_|refine Zh ?_|refine Zi ?_|refine Zj ?_|refine Zk ?_|refine Zl ?_|refine Zm ?_|refine Zn (fun hc=>?_) (fun hc=>?_)|refine Zo ?_|refine J6 ?_|refine Jf ?_|refine Zp ?_|refine Zq ?_|refine Zr (fun hc=>?_) (fun hc=>?_)|refine J5 ?_|refine Jh ?_|refine J8 ?_|refine Jb ?_|refine J3 ?_|refine Ja ?_|refine Zs ?_|refine Zv ?_|refine J7 ?_|refine J9 ?_|refine J4 ?_|refine Zt ?_|refine Zu ?_
  refine congrArg (fun z=>AEnd.ret (vi z)) ?_
  unfold ap2;rw[if_neg n6,if_pos k7]
 have n7:¬op=7:=k7
 have e7:decide (op=7)=false:=J1 k7
 clear k7
 by_cases k8:op=8
 ·have d8:decide (op=8)=true:=J0 k8
  repeat' first|refine Z1 ?_|refine Z2 ?_|refine Z3 ?_|refine Z4 ?_|refine Z5 ?_|refine Z6 ?_|refine Z7 ?_|refine Z8 ?_|refine Z9 ?_|refine Za (fun hc=>?_) (fun hc=>?_)|refine Zb (fun hc=>?_) (fun hc=>?_)|refine Zc (J26 (IntKind.i64.wrap (a*b))) ?_|refine Zd ?_|refine Ze ?_|refine Zf ?_|refine Zg ?_|refine Zh ?_|refine Zi ?_|refine Zj ?_|refine Zk ?_|refine Zl ?_|refine Zm ?_|refine Zn (fun hc=>?_) (fun hc=>?_)|refine Zo ?_|refine J6 ?_|refine Jf ?_|refine Zp ?_|refine Zq ?_|refine Zr (fun hc=>?_) (fun hc=>?_)|refine J5 ?_|refine Jh ?_|refine J8 ?_|refine Jb ?_|refine J3 ?_|refine Ja ?_|refine Zs ?_|refine Zv ?_|refine J7 ?_|refine J9 ?_|refine J4 ?_|refine Zt ?_|refine Zu ?_
  refine congrArg (fun z=>AEnd.ret (vi z)) ?_
  rw[J3m hmul]
  unfold ap2;rw[if_neg n6,if_neg n7,if_pos k8]
 have n8:¬op=8:=k8
 have e8:decide (op=8)=false:=J1 k8
 clear k8
 by_cases k9:op=9
 ·have d9:decide (op=9)=true:=J0 k9
  by_cases hz:b=0
  ·have dz:decide (b=0)=true:=J0 hz
   repeat' first|refine Z1 ?_|refine Z2 ?_|refine Z3 ?_|refine Z4 ?_|refine Z5 ?_|refine Z6 ?_|refine Z7 ?_|refine Z8 ?_|refine Z9 ?_|refine Za (fun hc=>?_) (fun hc=>?_)|refine Zb (fun hc=>?_) (fun hc=>?_)|refine Zd ?_|refine Ze ?_|refine Zf ?_|refine Zg ?_|refine Zh ?_|refine Zi ?_|refine Zj ?_|refine Zk ?_|refine Zl ?_|refine Zm ?_|refine Zn (fun hc=>?_) (fun hc=>?_)|refine Zo ?_|refine J6 ?_|refine Jf ?_|refine Zp ?_|refine Zq ?_|refine Zr (fun hc=>?_) (fun hc=>?_)|refine J5 ?_|refine Jh ?_|refine J8 ?_|refine Jb ?_|refine J3 ?_|refine Ja ?_|refine Zs ?_|refine Zv ?_|refine J7 ?_|refine J9 ?_|refine J4 ?_|refine Zt ?_|refine Zu ?_
   refine congrArg (fun z=>AEnd.ret (vi z)) ?_
   unfold ap2;rw[if_neg n6,if_neg n7,if_neg n8,if_pos k9,if_pos hz]
  ·have dz:decide (b=0)=false:=J1 hz
   repeat' first|refine Z1 ?_|refine Z2 ?_|refine Z3 ?_|refine Z4 ?_|refine Z5 ?_|refine Z6 ?_|refine Z7 ?_|refine Z8 ?_|refine Z9 ?_|refine Za (fun hc=>?_) (fun hc=>?_)|refine Zb (fun hc=>?_) (fun hc=>?_)|refine J81 hz rfl rfl ?_|refine Zc (J26 (IntKind.i64.wrap (a.tdiv b))) ?_|refine Zd ?_|refine Ze ?_|refine Zf ?_|refine Zg ?_|refine Zh ?_|refine Zi ?_|refine Zj ?_|refine Zk ?_|refine Zl ?_|refine Zm ?_|refine Zn (fun hc=>?_) (fun hc=>?_)|refine Zo ?_|refine J6 ?_|refine Jf ?_|refine Zp ?_|refine Zq ?_|refine Zr (fun hc=>?_) (fun hc=>?_)|refine J5 ?_|refine Jh ?_|refine J8 ?_|refine Jb ?_|refine J3 ?_|refine Ja ?_|refine Zs ?_|refine Zv ?_|refine J7 ?_|refine J9 ?_|refine J4 ?_|refine Zt ?_|refine Zu ?_
   refine congrArg (fun z=>AEnd.ret (vi z)) ?_
   rw[J3m ⟨by omega,by omega⟩]
   unfold ap2;rw[if_neg n6,if_neg n7,if_neg n8,if_pos k9,if_neg hz]
 have n9:¬op=9:=k9
 have e9:decide (op=9)=false:=J1 k9
 clear k9
 by_cases k10:op=10
 ·have d10:decide (op=10)=true:=J0 k10
  by_cases hz:b=0
  ·have dz:decide (b=0)=true:=J0 hz
   repeat' first|refine Z1 ?_|refine Z2 ?_|refine Z3 ?_|refine Z4 ?_|refine Z5 ?_|refine Z6 ?_|refine Z7 ?_|refine Z8 ?_|refine Z9 ?_|refine Za (fun hc=>?_) (fun hc=>?_)|refine Zb (fun hc=>?_) (fun hc=>?_)|refine Zd ?_|refine Ze ?_|refine Zf ?_|refine Zg ?_|refine Zh ?_|refine Zi ?_|refine Zj ?_|refine Zk ?_|refine Zl ?_|refine Zm ?_|refine Zn (fun hc=>?_) (fun hc=>?_)|refine Zo ?_|refine J6 ?_|refine Jf ?_|refine Zp ?_|refine Zq ?_|refine Zr (fun hc=>?_) (fun hc=>?_)|refine J5 ?_|refine Jh ?_|refine J8 ?_|refine Jb ?_|refine J3 ?_|refine Ja ?_|refine Zs ?_|refine Zv ?_|refine J7 ?_|refine J9 ?_|refine J4 ?_|refine Zt ?_|refine Zu ?_
   refine congrArg (fun z=>AEnd.ret (vi z)) ?_
   unfold ap2;rw[if_neg n6,if_neg n7,if_neg n8,if_neg n9,if_pos k10,if_pos hz]
  ·have dz:decide (b=0)=false:=J1 hz
   have hmd:=J9N ha hb hz
   have hw1:IntKind.i64.wrap (a.tdiv b)=a.tdiv b:=J3m ⟨by omega,by omega⟩
   have hw2:IntKind.i64.wrap (b*IntKind.i64.wrap (a.tdiv b))=b*a.tdiv b:=by rw[hw1];exact J3m hmd
   have hm:=Int.mul_tdiv_add_tmod a b
   have hr:=J1J ha hb hz
   unfold inR at hr
   have hbd:-9223372036854775808≤a-IntKind.i64.wrap (b*IntKind.i64.wrap (a.tdiv b))∧a-IntKind.i64.wrap (b*IntKind.i64.wrap (a.tdiv b))≤9223372036854775807:=by rw[hw2];omega
   repeat' first|refine Z1 ?_|refine Z2 ?_|refine Z3 ?_|refine Z4 ?_|refine Z5 ?_|refine Z6 ?_|refine Z7 ?_|refine Z8 ?_|refine Z9 ?_|refine Za (fun hc=>?_) (fun hc=>?_)|refine Zb (fun hc=>?_) (fun hc=>?_)|refine J81 hz rfl rfl ?_|refine Zc (J26 (a-IntKind.i64.wrap (b*IntKind.i64.wrap (a.tdiv b)))) ?_|refine Zd ?_|refine Ze ?_|refine Zf ?_|refine Zg ?_|refine Zh ?_|refine Zi ?_|refine Zj ?_|refine Zk ?_|refine Zl ?_|refine Zm ?_|refine Zn (fun hc=>?_) (fun hc=>?_)|refine Zo ?_|refine J6 ?_|refine Jf ?_|refine Zp ?_|refine Zq ?_|refine Zr (fun hc=>?_) (fun hc=>?_)|refine J5 ?_|refine Jh ?_|refine J8 ?_|refine Jb ?_|refine J3 ?_|refine Ja ?_|refine Zs ?_|refine Zv ?_|refine J7 ?_|refine J9 ?_|refine J4 ?_|refine Zt ?_|refine Zu ?_
   refine congrArg (fun z=>AEnd.ret (vi z)) ?_
   rw[hw2,Jce ha hb hz]
   unfold ap2;rw[if_neg n6,if_neg n7,if_neg n8,if_neg n9,if_pos k10,if_neg hz]
 have n10:¬op=10:=k10
 have e10:decide (op=10)=false:=J1 k10
 clear k10
 by_cases k11:op=11
 ·have d11:decide (op=11)=true:=J0 k11
  repeat' first|refine Z1 ?_|refine Z2 ?_|refine Z3 ?_|refine Z4 ?_|refine Z5 ?_|refine Z6 ?_|refine Z7 ?_|refine Z8 ?_|refine Z9 ?_|refine Za (fun hc=>?_) (fun hc=>?_)|refine Zb (fun hc=>?_) (fun hc=>?_)|refine Zc (J0P (decide (a=b))) ?_|refine Zd ?_|refine Ze ?_|refine Zf ?_|refine Zg ?_|refine Zh ?_|refine Zi ?_|refine Zj ?_|refine Zk ?_|refine Zl ?_|refine Zm ?_|refine Zn (fun hc=>?_) (fun hc=>?_)|refine Zo ?_|refine J6 ?_|refine Jf ?_|refine Zp ?_|refine Zq ?_|refine Zr (fun hc=>?_) (fun hc=>?_)|refine J5 ?_|refine Jh ?_|refine J8 ?_|refine Jb ?_|refine J3 ?_|refine Ja ?_|refine Zs ?_|refine Zv ?_|refine J7 ?_|refine J9 ?_|refine J4 ?_|refine Zt ?_|refine Zu ?_
  refine congrArg (fun z=>AEnd.ret (vi z)) ?_
  unfold ap2;rw[if_neg n6,if_neg n7,if_neg n8,if_neg n9,if_neg n10,if_pos k11]
 have n11:¬op=11:=k11
 have e11:decide (op=11)=false:=J1 k11
 clear k11
 by_cases k12:op=12
 ·have d12:decide (op=12)=true:=J0 k12
  repeat' first|refine Z1 ?_|refine Z2 ?_|refine Z3 ?_|refine Z4 ?_|refine Z5 ?_|refine Z6 ?_|refine Z7 ?_|refine Z8 ?_|refine Z9 ?_|refine Za (fun hc=>?_) (fun hc=>?_)|refine Zb (fun hc=>?_) (fun hc=>?_)|refine Zc (J0P (decide (a≠b))) ?_|refine Zd ?_|refine Ze ?_|refine Zf ?_|refine Zg ?_|refine Zh ?_|refine Zi ?_|refine Zj ?_|refine Zk ?_|refine Zl ?_|refine Zm ?_|refine Zn (fun hc=>?_) (fun hc=>?_)|refine Zo ?_|refine J6 ?_|refine Jf ?_|refine Zp ?_|refine Zq ?_|refine Zr (fun hc=>?_) (fun hc=>?_)|refine J5 ?_|refine Jh ?_|refine J8 ?_|refine Jb ?_|refine J3 ?_|refine Ja ?_|refine Zs ?_|refine Zv ?_|refine J7 ?_|refine J9 ?_|refine J4 ?_|refine Zt ?_|refine Zu ?_
  refine congrArg (fun z=>AEnd.ret (vi z)) ?_
  unfold ap2;rw[if_neg n6,if_neg n7,if_neg n8,if_neg n9,if_neg n10,if_neg n11,if_pos k12]
 have n12:¬op=12:=k12
 have e12:decide (op=12)=false:=J1 k12
 clear k12
 by_cases k13:op=13
 ·have d13:decide (op=13)=true:=J0 k13
  repeat' first|refine Z1 ?_|refine Z2 ?_|refine Z3 ?_|refine Z4 ?_|refine Z5 ?_|refine Z6 ?_|refine Z7 ?_|refine Z8 ?_|refine Z9 ?_|refine Za (fun hc=>?_) (fun hc=>?_)|refine Zb (fun hc=>?_) (fun hc=>?_)|refine Zc (J0P (decide (a<b))) ?_|refine Zd ?_|refine Ze ?_|refine Zf ?_|refine Zg ?_|refine Zh ?_|refine Zi ?_|refine Zj ?_|refine Zk ?_|refine Zl ?_|refine Zm ?_|refine Zn (fun hc=>?_) (fun hc=>?_)|refine Zo ?_|refine J6 ?_|refine Jf ?_|refine Zp ?_|refine Zq ?_|refine Zr (fun hc=>?_) (fun hc=>?_)|refine J5 ?_|refine Jh ?_|refine J8 ?_|refine Jb ?_|refine J3 ?_|refine Ja ?_|refine Zs ?_|refine Zv ?_|refine J7 ?_|refine J9 ?_|refine J4 ?_|refine Zt ?_|refine Zu ?_
  refine congrArg (fun z=>AEnd.ret (vi z)) ?_
  unfold ap2;rw[if_neg n6,if_neg n7,if_neg n8,if_neg n9,if_neg n10,if_neg n11,if_neg n12,if_pos k13]
 have n13:¬op=13:=k13
 have e13:decide (op=13)=false:=J1 k13
 clear k13
 by_cases k14:op=14
 ·have d14:decide (op=14)=true:=J0 k14
  repeat' first|refine Z1 ?_|refine Z2 ?_|refine Z3 ?_|refine Z4 ?_|refine Z5 ?_|refine Z6 ?_|refine Z7 ?_|refine Z8 ?_|refine Z9 ?_|refine Za (fun hc=>?_) (fun hc=>?_)|refine Zb (fun hc=>?_) (fun hc=>?_)|refine Zc (J0P (decide (a≤b))) ?_|refine Zd ?_|refine Ze ?_|refine Zf ?_|refine Zg ?_|refine Zh ?_|refine Zi ?_|refine Zj ?_|refine Zk ?_|refine Zl ?_|refine Zm ?_|refine Zn (fun hc=>?_) (fun hc=>?_)|refine Zo ?_|refine J6 ?_|refine Jf ?_|refine Zp ?_|refine Zq ?_|refine Zr (fun hc=>?_) (fun hc=>?_)|refine J5 ?_|refine Jh ?_|refine J8 ?_|refine Jb ?_|refine J3 ?_|refine Ja ?_|refine Zs ?_|refine Zv ?_|refine J7 ?_|refine J9 ?_|refine J4 ?_|refine Zt ?_|refine Zu ?_
  refine congrArg (fun z=>AEnd.ret (vi z)) ?_
  unfold ap2;rw[if_neg n6,if_neg n7,if_neg n8,if_neg n9,if_neg n10,if_neg n11,if_neg n12,if_neg n13,if_pos k14]
 have n14:¬op=14:=k14
 have e14:decide (op=14)=false:=J1 k14
 clear k14
 by_cases k15:op=15
 ·have d15:decide (op=15)=true:=J0 k15
  repeat' first|refine Z1 ?_|refine Z2 ?_|refine Z3 ?_|refine Z4 ?_|refine Z5 ?_|refine Z6 ?_|refine Z7 ?_|refine Z8 ?_|refine Z9 ?_|refine Za (fun hc=>?_) (fun hc=>?_)|refine Zb (fun hc=>?_) (fun hc=>?_)|refine Zc (J0P (decide (b<a))) ?_|refine Zd ?_|refine Ze ?_|refine Zf ?_|refine Zg ?_|refine Zh ?_|refine Zi ?_|refine Zj ?_|refine Zk ?_|refine Zl ?_|refine Zm ?_|refine Zn (fun hc=>?_) (fun hc=>?_)|refine Zo ?_|refine J6 ?_|refine Jf ?_|refine Zp ?_|refine Zq ?_|refine Zr (fun hc=>?_) (fun hc=>?_)|refine J5 ?_|refine Jh ?_|refine J8 ?_|refine Jb ?_|refine J3 ?_|refine Ja ?_|refine Zs ?_|refine Zv ?_|refine J7 ?_|refine J9 ?_|refine J4 ?_|refine Zt ?_|refine Zu ?_
  refine congrArg (fun z=>AEnd.ret (vi z)) ?_
  unfold ap2;rw[if_neg n6,if_neg n7,if_neg n8,if_neg n9,if_neg n10,if_neg n11,if_neg n12,if_neg n13,if_neg n14,if_pos k15]
 have n15:¬op=15:=k15
 have e15:decide (op=15)=false:=J1 k15
 clear k15
 by_cases k16:op=16
 ·have d16:decide (op=16)=true:=J0 k16
  repeat' first|refine Z1 ?_|refine Z2 ?_|refine Z3 ?_|refine Z4 ?_|refine Z5 ?_|refine Z6 ?_|refine Z7 ?_|refine Z8 ?_|refine Z9 ?_|refine Za (fun hc=>?_) (fun hc=>?_)|refine Zb (fun hc=>?_) (fun hc=>?_)|refine Zc (J0P (decide (b≤a))) ?_|refine Zd ?_|refine Ze ?_|refine Zf ?_|refine Zg ?_|refine Zh ?_|refine Zi ?_|refine Zj ?_|refine Zk ?_|refine Zl ?_|refine Zm ?_|refine Zn (fun hc=>?_) (fun hc=>?_)|refine Zo ?_|refine J6 ?_|refine Jf ?_|refine Zp ?_|refine Zq ?_|refine Zr (fun hc=>?_) (fun hc=>?_)|refine J5 ?_|refine Jh ?_|refine J8 ?_|refine Jb ?_|refine J3 ?_|refine Ja ?_|refine Zs ?_|refine Zv ?_|refine J7 ?_|refine J9 ?_|refine J4 ?_|refine Zt ?_|refine Zu ?_
  refine congrArg (fun z=>AEnd.ret (vi z)) ?_
  unfold ap2;rw[if_neg n6,if_neg n7,if_neg n8,if_neg n9,if_neg n10,if_neg n11,if_neg n12,if_neg n13,if_neg n14,if_neg n15,if_pos k16]
 have n16:¬op=16:=k16
 have e16:decide (op=16)=false:=J1 k16
 clear k16
 by_cases k17:op=17
 ·have d17:decide (op=17)=true:=J0 k17
  by_cases hz:a≠0
  ·have dz:decide (a≠0)=true:=J0 hz
   repeat' first|refine Z1 ?_|refine Z2 ?_|refine Z3 ?_|refine Z4 ?_|refine Z5 ?_|refine Z6 ?_|refine Z7 ?_|refine Z8 ?_|refine Z9 ?_|refine Za (fun hc=>?_) (fun hc=>?_)|refine Zb (fun hc=>?_) (fun hc=>?_)|refine Zc (J0P (decide (b≠0))) ?_|refine Zd ?_|refine Ze ?_|refine Zf ?_|refine Zg ?_|refine Zh ?_|refine Zi ?_|refine Zj ?_|refine Zk ?_|refine Zl ?_|refine Zm ?_|refine Zn (fun hc=>?_) (fun hc=>?_)|refine Zo ?_|refine J6 ?_|refine Jf ?_|refine Zp ?_|refine Zq ?_|refine Zr (fun hc=>?_) (fun hc=>?_)|refine J5 ?_|refine Jh ?_|refine J8 ?_|refine Jb ?_|refine J3 ?_|refine Ja ?_|refine Zs ?_|refine Zv ?_|refine J7 ?_|refine J9 ?_|refine J4 ?_|refine Zt ?_|refine Zu ?_
   refine congrArg (fun z=>AEnd.ret (vi z)) ?_
   unfold ap2;rw[if_neg n6,if_neg n7,if_neg n8,if_neg n9,if_neg n10,if_neg n11,if_neg n12,if_neg n13,if_neg n14,if_neg n15,if_neg n16,if_pos k17];rw[dz];rfl
  ·have dz:decide (a≠0)=false:=J1 hz
   repeat' first|refine Z1 ?_|refine Z2 ?_|refine Z3 ?_|refine Z4 ?_|refine Z5 ?_|refine Z6 ?_|refine Z7 ?_|refine Z8 ?_|refine Z9 ?_|refine Za (fun hc=>?_) (fun hc=>?_)|refine Zb (fun hc=>?_) (fun hc=>?_)|refine Zc (J0P false) ?_|refine Zd ?_|refine Ze ?_|refine Zf ?_|refine Zg ?_|refine Zh ?_|refine Zi ?_|refine Zj ?_|refine Zk ?_|refine Zl ?_|refine Zm ?_|refine Zn (fun hc=>?_) (fun hc=>?_)|refine Zo ?_|refine J6 ?_|refine Jf ?_|refine Zp ?_|refine Zq ?_|refine Zr (fun hc=>?_) (fun hc=>?_)|refine J5 ?_|refine Jh ?_|refine J8 ?_|refine Jb ?_|refine J3 ?_|refine Ja ?_|refine Zs ?_|refine Zv ?_|refine J7 ?_|refine J9 ?_|refine J4 ?_|refine Zt ?_|refine Zu ?_
   refine congrArg (fun z=>AEnd.ret (vi z)) ?_
   unfold ap2;rw[if_neg n6,if_neg n7,if_neg n8,if_neg n9,if_neg n10,if_neg n11,if_neg n12,if_neg n13,if_neg n14,if_neg n15,if_neg n16,if_pos k17];rw[dz];rfl
 have n17:¬op=17:=k17
 have e17:decide (op=17)=false:=J1 k17
 clear k17
 by_cases k18:op=18
 ·have d18:decide (op=18)=true:=J0 k18
  by_cases hz:a≠0
  ·have dz:decide (a≠0)=true:=J0 hz
   repeat' first|refine Z1 ?_|refine Z2 ?_|refine Z3 ?_|refine Z4 ?_|refine Z5 ?_|refine Z6 ?_|refine Z7 ?_|refine Z8 ?_|refine Z9 ?_|refine Za (fun hc=>?_) (fun hc=>?_)|refine Zb (fun hc=>?_) (fun hc=>?_)|refine Zc (J0P true) ?_|refine Zd ?_|refine Ze ?_|refine Zf ?_|refine Zg ?_|refine Zh ?_|refine Zi ?_|refine Zj ?_|refine Zk ?_|refine Zl ?_|refine Zm ?_|refine Zn (fun hc=>?_) (fun hc=>?_)|refine Zo ?_|refine J6 ?_|refine Jf ?_|refine Zp ?_|refine Zq ?_|refine Zr (fun hc=>?_) (fun hc=>?_)|refine J5 ?_|refine Jh ?_|refine J8 ?_|refine Jb ?_|refine J3 ?_|refine Ja ?_|refine Zs ?_|refine Zv ?_|refine J7 ?_|refine J9 ?_|refine J4 ?_|refine Zt ?_|refine Zu ?_
   refine congrArg (fun z=>AEnd.ret (vi z)) ?_
   unfold ap2;rw[if_neg n6,if_neg n7,if_neg n8,if_neg n9,if_neg n10,if_neg n11,if_neg n12,if_neg n13,if_neg n14,if_neg n15,if_neg n16,if_neg n17,if_pos k18];rw[dz];rfl
  ·have dz:decide (a≠0)=false:=J1 hz
   repeat' first|refine Z1 ?_|refine Z2 ?_|refine Z3 ?_|refine Z4 ?_|refine Z5 ?_|refine Z6 ?_|refine Z7 ?_|refine Z8 ?_|refine Z9 ?_|refine Za (fun hc=>?_) (fun hc=>?_)|refine Zb (fun hc=>?_) (fun hc=>?_)|refine Zc (J0P (decide (b≠0))) ?_|refine Zd ?_|refine Ze ?_|refine Zf ?_|refine Zg ?_|refine Zh ?_|refine Zi ?_|refine Zj ?_|refine Zk ?_|refine Zl ?_|refine Zm ?_|refine Zn (fun hc=>?_) (fun hc=>?_)|refine Zo ?_|refine J6 ?_|refine Jf ?_|refine Zp ?_|refine Zq ?_|refine Zr (fun hc=>?_) (fun hc=>?_)|refine J5 ?_|refine Jh ?_|refine J8 ?_|refine Jb ?_|refine J3 ?_|refine Ja ?_|refine Zs ?_|refine Zv ?_|refine J7 ?_|refine J9 ?_|refine J4 ?_|refine Zt ?_|refine Zu ?_
   refine congrArg (fun z=>AEnd.ret (vi z)) ?_
   unfold ap2;rw[if_neg n6,if_neg n7,if_neg n8,if_neg n9,if_neg n10,if_neg n11,if_neg n12,if_neg n13,if_neg n14,if_neg n15,if_neg n16,if_neg n17,if_pos k18];rw[dz];rfl
 have n18:¬op=18:=k18
 have e18:decide (op=18)=false:=J1 k18
 clear k18
 repeat' first|refine Z1 ?_|refine Z2 ?_|refine Z3 ?_|refine Z4 ?_|refine Z5 ?_|refine Z6 ?_|refine Z7 ?_|refine Z8 ?_|refine Z9 ?_|refine Za (fun hc=>?_) (fun hc=>?_)|refine Zb (fun hc=>?_) (fun hc=>?_)|refine Zc (J0P (decide (a≠0) != decide (b≠0))) ?_|refine Zd ?_|refine Ze ?_|refine Zf ?_|refine Zg ?_|refine Zh ?_|refine Zi ?_|refine Zj ?_|refine Zk ?_|refine Zl ?_|refine Zm ?_|refine Zn (fun hc=>?_) (fun hc=>?_)|refine Zo ?_|refine J6 ?_|refine Jf ?_|refine Zp ?_|refine Zq ?_|refine Zr (fun hc=>?_) (fun hc=>?_)|refine J5 ?_|refine Jh ?_|refine J8 ?_|refine Jb ?_|refine J3 ?_|refine Ja ?_|refine Zs ?_|refine Zv ?_|refine J7 ?_|refine J9 ?_|refine J4 ?_|refine Zt ?_|refine Zu ?_
 refine congrArg (fun z=>AEnd.ret (vi z)) ?_
 unfold ap2;rw[if_neg n6,if_neg n7,if_neg n8,if_neg n9,if_neg n10,if_neg n11,if_neg n12,if_neg n13,if_neg n14,if_neg n15,if_neg n16,if_neg n17,if_neg n18]
end Go.Pm
/- Part of the proof: Se3. -/
namespace Go.Pm
attribute [local irreducible] AR Ok inBlock andThen endQ aoper
set_option maxHeartbeats 4000000
open Go.Proofs
theorem J9Q {J:List Int} {m j:Nat}:nth (J.drop m) j=nth J (m+j):=by unfold nth;rw[List.getD_eq_getElem?_getD,List.getD_eq_getElem?_getD,List.getElem?_drop]
theorem Jbw {J:List Int} {j:Nat} (h:j<J.length):J[j]? = some (nth J j):=by unfold nth;rw[List.getD_eq_getElem?_getD,List.getElem?_eq_getElem h];rfl
theorem J8v {J:List Int} {j:Nat} (h:j<J.length):(im2 eNum J)[j]? = some [vi (nth J j)]:=J0b (e:=eNum) (Jbw h)
theorem JbS (F:List (ByteArray×Int)) (R:List Int) (lo hi:Nat) (hlo:lo≤hi) (hhi:hi≤R.length) (l:List Itm) (t:Tm) (hl:l.length≤1048576) (hp:postI 0 l=true) (hr:runT 0 [] l=[t])
  (hok:∀x∈l,okM (hi-lo) x) (hF:∀s,inR (rho F s)) (hR:∀v∈R,inR v):
  AFun X 72 [.d (.im (l.map eItm)),.mp 0,.sl 1 2 lo hi] (stL [some (.map .string (smap vi F)),some (.row 2 2 1 (im2 eNum R)),none]) fun E σ'=>E=.ret (vi (evT (rho F) ((R.drop lo).take (hi-lo)) t))∧∀j,j<3→σ'.obj j=(stL [some (.map .string (smap vi F)),some (.row 2 2 1 (im2 eNum R)),none]).obj j:=by
 obtain⟨M,hM⟩:∃M,M=(R.drop lo).take (hi-lo):=⟨_,rfl⟩
 have hMl:M.length=hi-lo:=by rw[hM,List.length_take,List.length_drop];omega
 have hMr:∀v∈M,inR v:=fun v hv=>hR v (List.mem_of_mem_drop (List.mem_of_mem_take (hM▸hv)))
 have hMn:∀j,j<hi-lo→nth M j=nth R (lo+j):=fun j hj=>by
  unfold nth
  rw[hM,List.getD_eq_getElem?_getD,List.getD_eq_getElem?_getD,List.getElem?_take,if_pos hj,List.getElem?_drop]
 rw[←hM]
 obtain⟨ev,hev⟩:∃ev:Tm→Int,ev=evT (rho F) M:=⟨_,rfl⟩
 rw[←hev]
 refine Jw Tryz.func72 rfl (by decide) Tryz.ntmps72 Tryz.results72 (by simp) ?_
 repeat' first|refine Z1 ?_|refine Z2 ?_|refine Z5 ?_|refine Zd ?_|refine Zo ?_|refine J6 ?_|refine J5 ?_
 refine JC (J2j 7 2 1 rfl) ?_
 refine JX (ι:=Nat×List Tm) (fun x_=>envL [(1,.mp 0),(2,.sl 1 2 lo hi),(7,.sl 3 4 0 x_.2.length),(13,.d (.im (l.map eItm))),(14,vi l.length),(15,vi x_.1)]) (fun x_=>stL [some (.map .string (smap vi F)),some (.row 2 2 1 (im2 eNum R)),none,some (.row 4 2 1 (im2 eNum (x_.2.map ev))),none]) (fun x_=>x_.1≤l.length∧x_.2.length≤x_.1∧postI x_.2.length (l.drop x_.1)=true∧runT x_.1 x_.2 (l.drop x_.1)=[t]∧∀v∈x_.2.map ev,inR v) (fun x_=>l.length-x_.1) (0,[]) (⟨Nat.zero_le _,Nat.le_refl _,hp,hr,fun v hv=>by simp at hv⟩) Turn.refl (Js [(4,3)] rfl rfl rfl ⟨⟨rfl,rfl⟩,⟨rfl,rfl⟩,⟨rfl,rfl⟩,⟨rfl,rfl⟩,⟨rfl,rfl⟩,⟨rfl,rfl⟩,trivial⟩ ⟨⟨by first|exact Jt _ (fun _=>rfl)|rfl,Jk (fun _=>rfl) _⟩,⟨Jd rfl (by first|exact Jg _ _ _|rfl),Je rfl,Jc _ _ _⟩,⟨Jd rfl (by first|exact Jg _ _ _|rfl),Je rfl,Jc _ _ _⟩,trivial⟩) ?_
 rintro⟨k,J⟩ ⟨i1,i2,i3,i4,i5⟩
 simp only at i1 i2 i3 i4 i5
 show Ok _ _ _ _ (envL [(1,.mp 0),(2,.sl 1 2 lo hi),(7,.sl 3 4 0 J.length),(13,.d (.im (l.map eItm))),(14,vi l.length),(15,vi k)]) (stL [some (.map .string (smap vi F)),some (.row 2 2 1 (im2 eNum R)),none,some (.row 4 2 1 (im2 eNum (J.map ev))),none])
 rcases hx:l[k]? with _|x
 ·have hle:=Jo hx
  have ek:decide ((k:Int)<(l.length:Int))=false:=J1 (by omega)
  rw[Jr hx]at i4
  simp only[runT]at i4
  subst i4
  have hr0:(im2 eNum ([t].map ev))[0]? = some [vi (ev t)]:=rfl
  repeat' first|refine Z1 ?_|refine Z2 ?_|refine Z5 ?_|refine Yf (hi:=1) (n:=0) 0 rfl (Nat.succ_pos 0) ?_|refine Zo ?_|refine J6 ?_|refine Zq ?_|refine Jh ?_|refine Jb ?_|refine J3 ?_|refine Ja ?_|refine Zv ?_|refine Zt ?_
  refine⟨rfl,fun j hj=>?_⟩
  match j,hj with
  |0,_=>rfl
  |1,_=>rfl
  |2,_=>rfl
 obtain⟨hd,hlt⟩:=Ji hx
 have ek:decide ((k:Int)<(l.length:Int))=true:=J0 (by omega)
 obtain⟨o1,o2,o3⟩:=hok x (List.mem_of_getElem? hx)
 rw[hd]at i3 i4
 simp only[postI]at i3
 simp only[runT]at i4
 have har:=J0T x.op
 obtain⟨n,hn⟩:∃n:Nat,arityI x.op=(n:Int):=⟨(arityI x.op).toNat,by omega⟩
 have hao:=J6Q x.op
 have hnn:(n:Int)=arityI x.op:=hn.symm
 rw[hn]at i3 i4 hao
 rw[Int.toNat_natCast]at i4
 by_cases hlow:(J.length:Int)<n
 ·rw[if_pos hlow]at i3;cases i3
 rw[if_neg hlow]at i3
 obtain⟨m,hm⟩:∃m:Nat,J.length=m+n:=⟨J.length-n,by omega⟩
 have hmn:J.length-n=m:=by omega
 rw[hmn]at i4
 have hw:(J.length:Int)-(n:Int)=(m:Int):=by omega
 obtain⟨T,hT⟩:∃T:Tm,T=.mk x k (J.drop m):=⟨_,rfl⟩
 rw[←hT]at i4
 obtain⟨V,hV⟩:∃V,V=J.map ev:=⟨_,rfl⟩
 have hVl:V.length=J.length:=by rw[hV,List.length_map]
 rw[←hV]at i5
 have hsl:∀{τ:St},τ.obj 3=some (.row 4 2 1 (im2 eNum (J.map ev)))→τ.obj 3=some (.row 4 2 1 (im2 eNum V)):=fun h=>by rw[hV];exact h
 have hrw:∀j,j<n→(im2 eNum (J.map ev))[m+j]? = some [vi (nth V (m+j))]:=fun j hj=>by rw[←hV];exact J8v (by omega)
 have heT:ev T=evI (rho F) M x (V.drop m):=by rw[hev,hT,J7Z,hV,hev,List.map_drop]
 have hlen:m+[ev T].length=(J.take m++[T]).length:=by rw[List.length_append,List.length_take];simp;omega
 have hrow:im2 eNum ((J.take m++[T]).map ev)=im2 eNum ((J.map ev).take m++[ev T]):=by rw[List.map_append,List.map_take];rfl
 have hpost:postI (J.take m++[T]).length (l.drop (k+1))=true:=by rw[←hlen];rw[show((m+[ev T].length:Nat):Int)=(J.length:Int)+(1-(n:Int)) by simp;omega];exact i3
 have hrange:inR (ev T)→∀v∈(J.take m++[T]).map ev,inR v:=fun h v hv=>by
  rw[List.map_append,List.map_take,←hV]at hv
  rcases List.mem_append.1 hv with h1|h1
  ·exact i5 v (List.mem_of_mem_take h1)
  ·simp at h1;rw[h1];exact h
 have hJm:m≤(J.map ev).length:=by rw[List.length_map];omega
 have hVd:∀v∈V.drop m,inR v:=fun v hv=>i5 v (List.mem_of_mem_drop hv)
 have hn0:∀j,nth (V.drop m) j=nth V (m+j):=fun j=>J9Q
 unfold evI at heT
 by_cases k1:x.op=1
 ·have d1:decide (x.op=1)=true:=J0 k1
  rw[if_pos (.inl k1)]at heT
  repeat' first|refine Z1 ?_|refine Z2 ?_|refine Z3 ?_|refine Z4 ?_|refine Z5 ?_|refine Zc (hao) ?_|refine Zg (m:=(J.length:Int)) (n:=(n:Int)) ?_|refine Uq (m:=J.length) m rfl hw (by omega) ?_|refine Yl2 (e:=eNum) (J:=J.map ev) [x.val] hJm ?_|refine Yz (hi:=J.length) m rfl hw (by omega) ?_|refine Ze ?_|refine Zf ?_|refine Zo ?_|refine J6 ?_|refine Jf ?_|refine Zp ?_|refine J5 ?_|refine J8 ?_|refine J3 ?_|refine J4 ?_
  rw[←heT]
  rw[←hrow,hlen]
  exact⟨(k+1,J.take m++[T]),⟨hlt,by simp only[List.length_append,List.length_take,List.length_singleton];omega,hpost,i4,hrange (by rw[heT];exact o2 (by omega))⟩,by(try simp only);omega,Js [(4,7)] rfl rfl rfl ⟨⟨rfl,rfl⟩,⟨rfl,rfl⟩,⟨rfl,rfl⟩,⟨rfl,rfl⟩,⟨rfl,rfl⟩,⟨rfl,rfl⟩,trivial⟩ ⟨⟨by first|exact Jt _ (fun _=>rfl)|rfl,Jk (fun _=>rfl) _⟩,⟨Jd rfl (by first|exact Jg _ _ _|rfl),Je rfl,Jc _ _ _⟩,⟨Jd rfl (by first|exact Jg _ _ _|rfl),Je rfl,Jc _ _ _⟩,trivial⟩⟩
 have e1:decide (x.op=1)=false:=J1 k1
 by_cases k2:x.op=2
 ·have d2:decide (x.op=2)=true:=J0 k2
  rw[if_pos (.inr k2)]at heT
  repeat' first|refine Z1 ?_|refine Z2 ?_|refine Z3 ?_|refine Z4 ?_|refine Z5 ?_|refine Zc (hao) ?_|refine Zg (m:=(J.length:Int)) (n:=(n:Int)) ?_|refine Uq (m:=J.length) m rfl hw (by omega) ?_|refine Yl2 (e:=eNum) (J:=J.map ev) [x.val] hJm ?_|refine Yz (hi:=J.length) m rfl hw (by omega) ?_|refine Ze ?_|refine Zf ?_|refine Zo ?_|refine J6 ?_|refine Jf ?_|refine Zp ?_|refine Zq ?_|refine J5 ?_|refine J8 ?_|refine J3 ?_|refine J4 ?_
  rw[←heT]
  rw[←hrow,hlen]
  exact⟨(k+1,J.take m++[T]),⟨hlt,by simp only[List.length_append,List.length_take,List.length_singleton];omega,hpost,i4,hrange (by rw[heT];exact o2 (by omega))⟩,by(try simp only);omega,Js [(4,7)] rfl rfl rfl ⟨⟨rfl,rfl⟩,⟨rfl,rfl⟩,⟨rfl,rfl⟩,⟨rfl,rfl⟩,⟨rfl,rfl⟩,⟨rfl,rfl⟩,trivial⟩ ⟨⟨by first|exact Jt _ (fun _=>rfl)|rfl,Jk (fun _=>rfl) _⟩,⟨Jd rfl (by first|exact Jg _ _ _|rfl),Je rfl,Jc _ _ _⟩,⟨Jd rfl (by first|exact Jg _ _ _|rfl),Je rfl,Jc _ _ _⟩,trivial⟩⟩
 have e2:decide (x.op=2)=false:=J1 k2
 rw[if_neg (show ¬(x.op=1∨x.op=2) by omega)]at heT
 by_cases k3:x.op=3
 ·have d3:decide (x.op=3)=true:=J0 k3
  rw[if_pos k3]at heT
  have hrh:(sfind F x.name).getD 0=ev T:=by rw[heT];rfl
  repeat' first|refine Z1 ?_|refine Z2 ?_|refine Z3 ?_|refine Z4 ?_|refine Z5 ?_|refine Zc (hao) ?_|refine Zg (m:=(J.length:Int)) (n:=(n:Int)) ?_|refine Uq (m:=J.length) m rfl hw (by omega) ?_|refine Yb (F:=F) (e:=vi) (d0:=0) (i:=0) ?_|refine Yl2 (e:=eNum) (J:=J.map ev) [(sfind F x.name).getD 0] hJm ?_|refine Yz (hi:=J.length) m rfl hw (by omega) ?_|refine Ze ?_|refine Zf ?_|refine Zo ?_|refine J6 ?_|refine Jf ?_|refine Zp ?_|refine Zq ?_|refine J5 ?_|refine J8 ?_|refine J3 ?_|refine J4 ?_
  rw[hrh]
  rw[←hrow,hlen]
  exact⟨(k+1,J.take m++[T]),⟨hlt,by simp only[List.length_append,List.length_take,List.length_singleton];omega,hpost,i4,hrange (by rw[heT];exact hF _)⟩,by(try simp only);omega,Js [(4,7)] rfl rfl rfl ⟨⟨rfl,rfl⟩,⟨rfl,rfl⟩,⟨rfl,rfl⟩,⟨rfl,rfl⟩,⟨rfl,rfl⟩,⟨rfl,rfl⟩,trivial⟩ ⟨⟨by first|exact Jt _ (fun _=>rfl)|rfl,Jk (fun _=>rfl) _⟩,⟨Jd rfl (by first|exact Jg _ _ _|rfl),Je rfl,Jc _ _ _⟩,⟨Jd rfl (by first|exact Jg _ _ _|rfl),Je rfl,Jc _ _ _⟩,trivial⟩⟩
 have e3:decide (x.op=3)=false:=J1 k3
 rw[if_neg k3]at heT
 by_cases k25:x.op=25
 ·have d25:decide (x.op=25)=true:=J0 k25
  rw[if_pos k25]at heT
  obtain⟨p0,p1⟩:=o3 k25
  have hpl:x.val.toNat<hi-lo:=by omega
  have hmr:(im2 eNum R)[lo+x.val.toNat]? = some [vi (ev T)]:=by rw[heT,hMn _ hpl];exact J8v (by omega)
  repeat' first|refine Z1 ?_|refine Z2 ?_|refine Z3 ?_|refine Z4 ?_|refine Z5 ?_|refine Zc (hao) ?_|refine Zg (m:=(J.length:Int)) (n:=(n:Int)) ?_|refine Uq (m:=J.length) m rfl hw (by omega) ?_|refine J08 (k:=x.val.toNat) (p:=lo+x.val.toNat) (lo:=lo) (hi:=hi) (i:=1) (show x.val=(x.val.toNat:Int) by omega) rfl (by omega) rfl rfl rfl rfl rfl rfl ?_|refine Ye hmr ?_|refine Yz (hi:=J.length) m rfl hw (by omega) ?_|refine Yl2 (e:=eNum) (J:=J.map ev) [ev T] hJm ?_|refine Ze ?_|refine Zf ?_|refine Zo ?_|refine J6 ?_|refine Jf ?_|refine Zp ?_|refine Zq ?_|refine J5 ?_|refine J8 ?_|refine J3 ?_|refine J4 ?_
  rw[←hrow,hlen]
  exact⟨(k+1,J.take m++[T]),⟨hlt,by simp only[List.length_append,List.length_take,List.length_singleton];omega,hpost,i4,hrange (by rw[heT];exact J00 hMr _)⟩,by(try simp only);omega,Js [(4,7)] rfl rfl rfl ⟨⟨rfl,rfl⟩,⟨rfl,rfl⟩,⟨rfl,rfl⟩,⟨rfl,rfl⟩,⟨rfl,rfl⟩,⟨rfl,rfl⟩,trivial⟩ ⟨⟨by first|exact Jt _ (fun _=>rfl)|rfl,Jk (fun _=>rfl) _⟩,⟨Jd rfl (by first|exact Jg _ _ _|rfl),Je rfl,Jc _ _ _⟩,⟨Jd rfl (by first|exact Jg _ _ _|rfl),Je rfl,Jc _ _ _⟩,trivial⟩⟩
 have e25:decide (x.op=25)=false:=J1 k25
 rw[if_neg k25]at heT
 unfold apV at heT
 by_cases k4:x.op=4
 ·have d4:decide (x.op=4)=true:=J0 k4
  have hna:n=1:=by rw[k4]at hnn;simp[arityI]at hnn;omega
  rw[if_pos k4,hn0]at heT
  have hr0:=J00 i5 (m+0)
  unfold inR at hr0
  have hwr:IntKind.i64.wrap (0-nth V (m+0))=-(nth V (m+0)):=by rw[J3m ⟨by omega,by omega⟩];omega
  have hwp:PFun X 120 [vi (IntKind.i64.wrap (0-nth V (m+0)))] (vi (ev T)):=by rw[hwr,heT];exact J26 _
  repeat' first|refine Z1 ?_|refine Z2 ?_|refine Z3 ?_|refine Z4 ?_|refine Z5 ?_|refine Zc (hao) ?_|refine Zg (m:=(J.length:Int)) (n:=(n:Int)) ?_|refine Uq (m:=J.length) m rfl hw (by omega) ?_|refine J08 (k:=0) (p:=m+0) (lo:=m) (hi:=J.length) (i:=3) (n:=0) rfl rfl (by omega) rfl rfl rfl rfl rfl rfl ?_|refine Ye (hrw 0 (by omega)) ?_|refine Zc (hwp) ?_|refine Yz (hi:=J.length) m rfl hw (by omega) ?_|refine Yl2 (e:=eNum) (J:=J.map ev) [ev T] hJm ?_|refine Ze ?_|refine Zf ?_|refine Zo ?_|refine J6 ?_|refine Jf ?_|refine Zp ?_|refine Zq ?_|refine J5 ?_|refine J8 ?_|refine J3 ?_|refine J4 ?_
  rw[←hrow,hlen]
  exact⟨(k+1,J.take m++[T]),⟨hlt,by simp only[List.length_append,List.length_take,List.length_singleton];omega,hpost,i4,hrange (by rw[heT];exact J0s _)⟩,by(try simp only);omega,Js [(4,7)] rfl rfl rfl ⟨⟨rfl,rfl⟩,⟨rfl,rfl⟩,⟨rfl,rfl⟩,⟨rfl,rfl⟩,⟨rfl,rfl⟩,⟨rfl,rfl⟩,trivial⟩ ⟨⟨by first|exact Jt _ (fun _=>rfl)|rfl,Jk (fun _=>rfl) _⟩,⟨Jd rfl (by first|exact Jg _ _ _|rfl),Je rfl,Jc _ _ _⟩,⟨Jd rfl (by first|exact Jg _ _ _|rfl),Je rfl,Jc _ _ _⟩,trivial⟩⟩
 have e4:decide (x.op=4)=false:=J1 k4
 rw[if_neg k4]at heT
 by_cases k5:x.op=5
 ·have d5:decide (x.op=5)=true:=J0 k5
  have hna:n=1:=by rw[k5]at hnn;simp[arityI]at hnn;omega
  rw[if_pos k5,hn0]at heT
  have hbp:PFun X 121 [vb (decide (nth V (m+0)=0))] (vi (ev T)):=by rw[heT];exact J0P _
  repeat' first|refine Z1 ?_|refine Z2 ?_|refine Z3 ?_|refine Z4 ?_|refine Z5 ?_|refine Zc (hao) ?_|refine Zg (m:=(J.length:Int)) (n:=(n:Int)) ?_|refine Uq (m:=J.length) m rfl hw (by omega) ?_|refine J08 (k:=0) (p:=m+0) (lo:=m) (hi:=J.length) (i:=3) (n:=0) rfl rfl (by omega) rfl rfl rfl rfl rfl rfl ?_|refine Ye (hrw 0 (by omega)) ?_|refine Zc (hbp) ?_|refine Yz (hi:=J.length) m rfl hw (by omega) ?_|refine Yl2 (e:=eNum) (J:=J.map ev) [ev T] hJm ?_|refine Ze ?_|refine Zf ?_|refine Zo ?_|refine J6 ?_|refine Jf ?_|refine Zp ?_|refine Zq ?_|refine J5 ?_|refine J8 ?_|refine J3 ?_|refine J4 ?_
  rw[←hrow,hlen]
  exact⟨(k+1,J.take m++[T]),⟨hlt,by simp only[List.length_append,List.length_take,List.length_singleton];omega,hpost,i4,hrange (by rw[heT];exact J06 _)⟩,by(try simp only);omega,Js [(4,7)] rfl rfl rfl ⟨⟨rfl,rfl⟩,⟨rfl,rfl⟩,⟨rfl,rfl⟩,⟨rfl,rfl⟩,⟨rfl,rfl⟩,⟨rfl,rfl⟩,trivial⟩ ⟨⟨by first|exact Jt _ (fun _=>rfl)|rfl,Jk (fun _=>rfl) _⟩,⟨Jd rfl (by first|exact Jg _ _ _|rfl),Je rfl,Jc _ _ _⟩,⟨Jd rfl (by first|exact Jg _ _ _|rfl),Je rfl,Jc _ _ _⟩,trivial⟩⟩
 have e5:decide (x.op=5)=false:=J1 k5
 rw[if_neg k5]at heT
 by_cases k20:x.op=20
 ·have d20:decide (x.op=20)=true:=J0 k20
  have hna:n=3:=by rw[k20]at hnn;simp[arityI]at hnn;omega
  rw[if_pos k20,hn0,hn0,hn0]at heT
  by_cases hz:nth V (m+0)≠0
  ·have dz:decide (nth V (m+0)≠0)=true:=J0 hz
   rw[if_pos hz]at heT
   repeat' first|refine Z1 ?_|refine Z2 ?_|refine Z3 ?_|refine Z4 ?_|refine Z5 ?_|refine Zc (hao) ?_|refine Zg (m:=(J.length:Int)) (n:=(n:Int)) ?_|refine Uq (m:=J.length) m rfl hw (by omega) ?_|refine J08 (k:=0) (p:=m+0) (lo:=m) (hi:=J.length) (i:=3) (n:=0) rfl rfl (by omega) rfl rfl rfl rfl rfl rfl ?_|refine Ye (hrw 0 (by omega)) ?_|refine J08 (k:=1) (p:=m+1) (lo:=m) (hi:=J.length) (i:=3) (n:=1) rfl rfl (by omega) rfl rfl rfl rfl rfl rfl ?_|refine Ye (hrw 1 (by omega)) ?_|refine J08 (k:=2) (p:=m+2) (lo:=m) (hi:=J.length) (i:=3) (n:=2) rfl rfl (by omega) rfl rfl rfl rfl rfl rfl ?_|refine Ye (hrw 2 (by omega)) ?_|refine Yl2 (e:=eNum) (J:=J.map ev) [nth V (m+1)] hJm ?_|refine Yz (hi:=J.length) m rfl hw (by omega) ?_|refine Ze ?_|refine Zf ?_|refine Zo ?_|refine J6 ?_|refine Jf ?_|refine Zp ?_|refine Zq ?_|refine J5 ?_|refine J8 ?_|refine J3 ?_|refine J4 ?_
   rw[←heT]
   rw[←hrow,hlen]
   exact⟨(k+1,J.take m++[T]),⟨hlt,by simp only[List.length_append,List.length_take,List.length_singleton];omega,hpost,i4,hrange (by rw[heT];exact J00 i5 _)⟩,by(try simp only);omega,Js [(4,7)] rfl rfl rfl ⟨⟨rfl,rfl⟩,⟨rfl,rfl⟩,⟨rfl,rfl⟩,⟨rfl,rfl⟩,⟨rfl,rfl⟩,⟨rfl,rfl⟩,trivial⟩ ⟨⟨by first|exact Jt _ (fun _=>rfl)|rfl,Jk (fun _=>rfl) _⟩,⟨Jd rfl (by first|exact Jg _ _ _|rfl),Je rfl,Jc _ _ _⟩,⟨Jd rfl (by first|exact Jg _ _ _|rfl),Je rfl,Jc _ _ _⟩,trivial⟩⟩
  ·have dz:decide (nth V (m+0)≠0)=false:=J1 hz
   rw[if_neg hz]at heT
   repeat' first|refine Z1 ?_|refine Z2 ?_|refine Z3 ?_|refine Z4 ?_|refine Z5 ?_|refine Zc (hao) ?_|refine Zg (m:=(J.length:Int)) (n:=(n:Int)) ?_|refine Uq (m:=J.length) m rfl hw (by omega) ?_|refine J08 (k:=0) (p:=m+0) (lo:=m) (hi:=J.length) (i:=3) (n:=0) rfl rfl (by omega) rfl rfl rfl rfl rfl rfl ?_|refine Ye (hrw 0 (by omega)) ?_|refine J08 (k:=2) (p:=m+2) (lo:=m) (hi:=J.length) (i:=3) (n:=2) rfl rfl (by omega) rfl rfl rfl rfl rfl rfl ?_|refine Ye (hrw 2 (by omega)) ?_|refine Yl2 (e:=eNum) (J:=J.map ev) [nth V (m+2)] hJm ?_|refine Yz (hi:=J.length) m rfl hw (by omega) ?_|refine Ze ?_|refine Zf ?_|refine Zo ?_|refine J6 ?_|refine Jf ?_|refine Zp ?_|refine Zq ?_|refine J5 ?_|refine J8 ?_|refine J3 ?_|refine J4 ?_
   rw[←heT]
   rw[←hrow,hlen]
   exact⟨(k+1,J.take m++[T]),⟨hlt,by simp only[List.length_append,List.length_take,List.length_singleton];omega,hpost,i4,hrange (by rw[heT];exact J00 i5 _)⟩,by(try simp only);omega,Js [(4,7)] rfl rfl rfl ⟨⟨rfl,rfl⟩,⟨rfl,rfl⟩,⟨rfl,rfl⟩,⟨rfl,rfl⟩,⟨rfl,rfl⟩,⟨rfl,rfl⟩,trivial⟩ ⟨⟨by first|exact Jt _ (fun _=>rfl)|rfl,Jk (fun _=>rfl) _⟩,⟨Jd rfl (by first|exact Jg _ _ _|rfl),Je rfl,Jc _ _ _⟩,⟨Jd rfl (by first|exact Jg _ _ _|rfl),Je rfl,Jc _ _ _⟩,trivial⟩⟩
 have e20:decide (x.op=20)=false:=J1 k20
 rw[if_neg k20,hn0,hn0]at heT
 have hna:n=2:=by
  unfold arityI at hnn
  rw[if_neg (by omega),if_neg (by omega),if_neg k20]at hnn
  omega
 have hap:PFun X 122 [vi x.op,vi (nth V (m+0)),vi (nth V (m+1))] (vi (ev T)):=by rw[heT];exact JaC _ _ _ (by omega) (by omega) (J00 i5 _) (J00 i5 _)
 repeat' first|refine Z1 ?_|refine Z2 ?_|refine Z3 ?_|refine Z4 ?_|refine Z5 ?_|refine Zc (hao) ?_|refine Zg (m:=(J.length:Int)) (n:=(n:Int)) ?_|refine Uq (m:=J.length) m rfl hw (by omega) ?_|refine Yz (hi:=J.length) m rfl hw (by omega) ?_|refine Yl2 (e:=eNum) (J:=J.map ev) [ev T] hJm ?_|refine Ze ?_|refine Zf ?_|refine Zw ?_|refine Zy ?_|refine Zz (J08 (k:=0) (p:=m+0) (lo:=m) (hi:=J.length) (i:=3) (n:=0) rfl rfl (by omega) rfl rfl rfl rfl rfl rfl ⟨rfl,rfl⟩) ?_|refine Zz (Ye (hrw 0 (by omega)) ⟨rfl,rfl⟩) ?_|refine Zz (J08 (k:=1) (p:=m+1) (lo:=m) (hi:=J.length) (i:=3) (n:=1) rfl rfl (by omega) rfl rfl rfl rfl rfl rfl ⟨rfl,rfl⟩) ?_|refine Zz (Ye (hrw 1 (by omega)) ⟨rfl,rfl⟩) ?_|refine Zz (Zc (hap) ⟨rfl,rfl⟩) ?_|refine Zo ?_|refine J6 ?_|refine Jf ?_|refine Jx Jp (by decide +kernel) ?_|refine Zp ?_|refine Zq ?_|refine J5 ?_|refine J8 ?_|refine J3 ?_|refine J4 ?_
 rw[←hrow,hlen]
 exact⟨(k+1,J.take m++[T]),⟨hlt,by simp only[List.length_append,List.length_take,List.length_singleton];omega,hpost,i4,hrange (by rw[heT];exact J5x (J00 i5 _) (J00 i5 _))⟩,by(try simp only);omega,Js [(4,7)] rfl rfl rfl ⟨⟨rfl,rfl⟩,⟨rfl,rfl⟩,⟨rfl,rfl⟩,⟨rfl,rfl⟩,⟨rfl,rfl⟩,⟨rfl,rfl⟩,trivial⟩ ⟨⟨by first|exact Jt _ (fun _=>rfl)|rfl,Jk (fun _=>rfl) _⟩,⟨Jd rfl (by first|exact Jg _ _ _|rfl),Je rfl,Jc _ _ _⟩,⟨Jd rfl (by first|exact Jg _ _ _|rfl),Je rfl,Jc _ _ _⟩,trivial⟩⟩
end Go.Pm
/- Part of the proof: Se4. -/
namespace Go.Pm
attribute [local irreducible] AR Ok inBlock andThen endQ aoper
open Go.Proofs
theorem Jad {F:List (ByteArray×Int)} {R:List Int} {lo hi:Nat} (hlo:lo≤hi) (hhi:hi≤R.length) {l:List Itm} {t:Tm} (hl:l.length≤1048576) (hp:postI 0 l=true) (hr:runT 0 [] l=[t])
  (hok:∀x∈l,okM (hi-lo) x) (hF:∀s,inR (rho F s)) (hR:∀v∈R,inR v) {σ:St} {i j h:Nat} (hi1:σ.obj i=some (.map .string (smap vi F))) (hj:σ.obj j=some (.row h 2 1 (im2 eNum R))):
  AFun X 72 [.d (.im (l.map eItm)),.mp i,.sl j h lo hi] σ fun E σ'=>E=.ret (vi (evT (rho F) ((R.drop lo).take (hi-lo)) t))∧σ'=σ:=by
 have hs:=JbS F R lo hi hlo hhi l t hl hp hr hok hF hR
 refine AFun.wfr hs.1 fun wf1 wf2=>?_
 have a1:=wf1 i _ hi1
 have a2:=wf1 j _ hj
 have a3:=wf2 j _ _ _ _ hj
 have hne:i≠j:=fun e=>by rw[e,hj]at hi1;cases hi1
 have one:∀(q:Nat) (o:AO),([some (AO.map .string (smap vi F)),some (AO.row 2 2 1 (im2 eNum R)),none][q]?).join=some o→(q=0∧o=.map .string (smap vi F))∨(q=1∧o=.row 2 2 1 (im2 eNum R)):=by
  intro q o hq
  match q,hq with
  |0,hq=>exact .inl ⟨rfl,by simpa using hq.symm⟩
  |1,hq=>exact .inr ⟨rfl,by simpa using hq.symm⟩
  |2,hq=>simp at hq
  |q+3,hq=>simp at hq
 let π:Nat→Nat:=fun q=>if q=0 then i else if q=1 then j else h
 refine AFun.ro hs (fun q o hq=>?_) rfl rfl π (fun a b o o' ha hb he=>?_) (fun q hq=>?_) (fun q o hq=>?_)
 ·rcases one q o hq with⟨rfl,rfl⟩|⟨rfl,rfl⟩
  ·exact Jk (fun _=>rfl) F
  ·exact⟨by show 2<3;omega,Jc _ _ _⟩
 ·rcases one a o ha with⟨rfl,_⟩|⟨rfl,_⟩<;>rcases one b o' hb with⟨rfl,_⟩|⟨rfl,_⟩
  ·rfl
  ·exact absurd he hne
  ·exact absurd he.symm hne
  ·rfl
 ·show(if q=0 then i else if q=1 then j else h)<σ.next
  split
  ·exact a1
  ·split
   ·exact a2
   ·exact a3
 ·rcases one q o hq with⟨rfl,rfl⟩|⟨rfl,rfl⟩
  ·show σ.obj i=_
   rw[hi1];exact Jt F (fun _=>rfl)
  ·show σ.obj j=_
   rw[hj]
   show _=some (renO π (.row 2 _ 1 (im2 eNum R)))
   simp only[renO]
   rw[Jg];rfl
end Go.Pm
/- Part of the proof: Sg1. -/
namespace Go.Pm
attribute [local irreducible] AR Ok inBlock andThen endQ aoper
set_option maxHeartbeats 4000000
open Go.Proofs
def engV (cs:List Cls) (Z Bd:List Int) (roots:List (List D)) (n:Int):AO:=.var [.d (.im (cs.map eCls)),.d (.ip [.im (Z.map eNum),.im (Bd.map eNum)] 0),.d (.im roots),vi n]
def doO (cs:List Cls) (Z Bd:List Int) (roots:List (List D)) (c:Cls) (fr P Q:List Int) (m:Nat) (σ:MS):List (Option AO):=
 [some (.var [.ref 6 0]),some (.var [.mp 7]),some (.var [.sl 8 9 P.length (P.length+m)]),some (.var [.fn 71 [.ref 0 0,.ref 1 0,.ref 2 0,.ref 3 0,.ref 4 0,.ref 5 0]]),some (.var ((eCls c).map .d)),some (.var [.sl 10 11 0 fr.length]),
  some (engV cs Z Bd roots σ.n),some (.map .string (smap vi σ.F)),some (.row 9 2 1 (im2 eNum (P++(σ.M++Q)))),none,some (.row 11 3 1 (im2 eNum fr)),none]
theorem J4s {x:Itm} {i:Nat} {ks:List Tm} {k:Tm} (hk:k∈ks) {y:Itm} (hy:y∈flat k):y∈flat (.mk x i ks):=by
 simp only[flat,List.mem_append]
 left
 induction ks with
 |nil=>simp at hk
 |cons t ts ih=>
  simp only[flatL,List.mem_append]
  rcases List.mem_cons.1 hk with rfl|h
  ·exact .inl hy
  ·exact .inr (ih h)
theorem J3i {x:Itm} {i:Nat} {k:Tm}:∀{ks:List Tm},k∈ks→(flat k).length<(flat (.mk x i ks)).length
 |t::ts,h=>by
  rcases List.mem_cons.1 h with rfl|h
  ·simp only[flat,flatL,List.length_append,List.length_singleton];omega
  ·have:=J3i (x:=x) (i:=i) h
   simp only[flat,flatL,List.length_append,List.length_singleton]at this ⊢;omega
def doT (j:Nat):Prop:=j=0∨j=1∨j=2∨j=3∨j=7∨j=8
def okMS (m:Nat) (σ:MS):Prop:=σ.M.length=m∧(∀s,inR (rho σ.F s))∧(∀v∈σ.M,inR v)∧0≤σ.n
def okCall (cs:List Cls) (Z:List Int) (m:Nat) (c:Cls) (s:Sm):Prop:=
 (∀a∈s.args,GoodM c a)∧s.args.length≤1048576∧s.outs.length≤1048576∧∃(p g z:Nat) (d:Cls),s.pos=(p:Int)∧c.insts[p]? = some (g:Int)∧cs[g]? = some d∧Z[g]? = some (z:Int)∧fromZ Z c p+z≤m∧s.args.length=d.ins.length∧s.outs.length=d.outs.length
def okSt (cs:List Cls) (Z:List Int) (m:Nat) (c:Cls) (s:Sm):Prop:=(s.kind=1→GoodM c s.code)∧(s.kind=2→GoodM c s.code∧0≤s.pos∧s.pos<(c.mems.length:Int))∧(s.kind=3→okCall cs Z m c s)
mutual
def okB (cs:List Cls) (Z:List Int) (m:Nat) (c:Cls):Br→Prop
 |.nd s y n=>okSt cs Z m c s∧okL cs Z m c y∧okL cs Z m c n
def okL (cs:List Cls) (Z:List Int) (m:Nat) (c:Cls):List Br→Prop
 |[]=>True
 |b::l=>okB cs Z m c b∧okL cs Z m c l
end
def CallOK (cs:List Cls) (Z:List Int) (call:CallF):Prop:=∀(g:Nat) (d:Cls) (z:Nat) (S I:List Int),cs[g]? = some d→Z[g]? = some (z:Int)→S.length=z→I.length=d.ins.length→(∀v∈S,inR v)→(∀v∈I,inR v)→
 (call g S I).1.length=S.length∧(call g S I).2.1.length=d.outs.length∧(∀v∈(call g S I).1,inR v)∧∀v∈(call g S I).2.1,inR v
mutual
theorem JbZ {call:CallF} (hc:∀g S I,0≤(call g S I).2.2) (Z:List Int) (c:Cls):∀(b:Br) (σ:MS),σ.n+1≤(exB call Z c b σ).n
 |.nd s y n,σ=>by
  simp only[exB]
  split
  ·split
   ·have:=J20 hc Z c y {σ with n:=σ.n+1};exact this
   ·have:=J20 hc Z c n {σ with n:=σ.n+1};exact this
  ·unfold exS
   split
   ·exact Int.le_refl _
   split
   ·exact Int.le_refl _
   split
   ·have:=hc (nth c.insts s.pos.toNat).toNat ((σ.M.drop (fromZ Z c s.pos.toNat)).take (fromZ Z c s.pos.toNat+(nth Z (nth c.insts s.pos.toNat).toNat).toNat-fromZ Z c s.pos.toNat)) (s.args.map (codeV {σ with n:=σ.n+1}))
    unfold exCall
    dsimp only
    omega
   ·exact Int.le_refl _
theorem J20 {call:CallF} (hc:∀g S I,0≤(call g S I).2.2) (Z:List Int) (c:Cls):∀(l:List Br) (σ:MS),σ.n≤(exL call Z c l σ).n
 |[],σ=>Int.le_refl _
 |b::l,σ=>by
  have h1:=JbZ hc Z c b σ
  have h2:=J20 hc Z c l (exB call Z c b σ)
  simp only[exL]
  omega
end
theorem J8y {cs:List Cls} {Z:List Int} {m:Nat} {c:Cls} {b:Br}:∀{l:List Br},b∈l→okL cs Z m c l→okB cs Z m c b
 |x::l,h,hl=>by
  simp only[okL]at hl
  rcases List.mem_cons.1 h with rfl|h
  ·exact hl.1
  ·exact J8y h hl.2
theorem Jbv (P M Q:List Int):((P++(M++Q)).drop P.length).take (P.length+M.length-P.length)=M:=by
 rw[List.drop_left,Nat.add_sub_cancel_left,List.take_left]
theorem JbN {P M Q:List Int} {p:Nat} {v:Int} (hp:p<M.length):(P++(M++Q)).set (P.length+p) v=P++(M.set p v++Q):=by
 rw[List.set_append_right _ _ (by omega),Nat.add_sub_cancel_left,List.set_append_left _ _ hp]
theorem J4d {F:List (ByteArray×Int)} {s:ByteArray} {v:Int} (hF:∀s,inR (rho F s)) (hv:inR v):∀x,inR (rho (sput F s v) x):=fun x=>by
 unfold rho
 rw[JB]
 split
 ·exact hv
 ·exact hF x
theorem J5F {ρ:ByteArray→Int} {M:List Int} (hF:∀s,inR (ρ s)) (hM:∀v∈M,inR v):∀(N:Nat) (t:Tm),(flat t).length≤N→(∀x∈flat t,x.op=1∨x.op=2→inR x.val)→inR (evT ρ M t):=by
 intro N
 induction N with
 |zero=>intro t h;cases t;simp[flat]at h
 |succ N ih=>
  intro t h hx
  obtain⟨x,i,ks⟩:=t
  rw[J7Z]
  have hk:∀v∈ks.map (evT ρ M),inR v:=fun v hv=>by
   obtain⟨k,hk,rfl⟩:=List.mem_map.1 hv
   exact ih k (by have:=J3i (x:=x) (i:=i) hk;omega) fun y hy=>hx y (J4s hk hy)
  unfold evI
  refine JG (fun e=>hx x (by simp[flat]) e) fun _=>JG (fun _=>hF _) fun _=>JG (fun _=>J00 hM _) fun _=>J9d hk
end Go.Pm
