/- Part of the proof: Sh1. -/
import Derived.Test.YtdjanhhljinokaaGreatDoorT13
import Derived.Test.YtdjanhhljinokaaGreatDoorT15
import Derived.Test.YtdjanhhljinokaaGreatDoorT10
import Derived.Test.YtdjanhhljinokaaGreatDoorT11
import Derived.Test.YtdjanhhljinokaaGreatDoorT12
import Derived.Test.YtdjanhhljinokaaGreatDoorT8
import Derived.Test.YtdjanhhljinokaaGreatDoorT9
set_option linter.unusedVariables false
set_option linter.unusedSimpArgs false
namespace Go.Pm
attribute [local irreducible] AR Ok inBlock andThen endQ aoper
set_option maxHeartbeats 1000000
open Go.Proofs
theorem Jay (v:Int):wrapS v=w32 v:=by
 have h:=J0s v
 unfold inR at h
 show IntKind.i64.wrap (w32 v)=w32 v
 exact J1n (by omega) (by omega)
theorem J1B (v:Int):PFun X 66 [vi v] (vi (w32 v)):=by
 have:=J23 v
 rw[Jay]at this
 exact this
theorem J0m (b:Bool):PFun X 147 [vb b] (vi (bitI b)):=by
 refine Jn Tryz.func147 rfl (by decide) Tryz.ntmps147 Tryz.results147 (by simp) rfl rfl ?_
 cases b with
 |true=>
  repeat' first|refine Z1 ?_|refine Z2 ?_|refine Zo ?_|refine J6 ?_|refine Zp ?_|refine Jb ?_|refine J7 ?_|refine Zt ?_
  rfl
 |false=>
  repeat' first|refine Z1 ?_|refine Z2 ?_|refine Zo ?_|refine J6 ?_|refine Zq ?_|refine J8 ?_|refine Jb ?_|refine J3 ?_|refine Zt ?_
  rfl
theorem J8d {a b:Int} (ha:inR a) (hb:inR b):-9223372036854775808≤a*b∧a*b≤9223372036854775807:=by
 unfold inR at ha hb
 have h1:(a*b).natAbs≤2147483648*2147483648:=by
  rw[Int.natAbs_mul]
  exact Nat.mul_le_mul (by omega) (by omega)
 omega
theorem J74 {a b:Int} (ha:inR a):-2147483648≤a.tdiv b∧a.tdiv b≤2147483648:=by
 unfold inR at ha
 have h1:(a.tdiv b).natAbs≤a.natAbs:=by rw[Int.natAbs_tdiv];exact Nat.div_le_self _ _
 omega
theorem Jaf {v:Int} (h:-9223372036854775808≤v∧v≤9223372036854775807):IntKind.i64.wrap v=v:=J1n h.1 h.2
theorem JaX (op a:Int) (h:op=4∨op=5) (ha:inR a):PFun X 190 [vi op,.d (.im ([a].map eNum))] (vi (apV op [a])):=by
 have ha2:-2147483648≤a∧a≤2147483647:=ha
 have hng:IntKind.i64.wrap (0-a)=-a:=by rw[Jaf (by omega)];omega
 refine Jn Tryz.func190 rfl (by decide) Tryz.ntmps190 Tryz.results190 (by simp) rfl rfl ?_
 by_cases k4:op=4
 ·have d4:decide (op=4)=true:=J0 k4
  subst k4
  have hw:=J1B (IntKind.i64.wrap (0-a))
  repeat' first|refine Z1 ?_|refine Z2 ?_|refine Z5 ?_|refine Zc (hw) ?_|refine Yej (e:=eNum) (l:=[a]) (n:=0) 0 rfl rfl ?_|refine Zo ?_|refine J6 ?_|refine Zp ?_|refine J5 ?_|refine Jb ?_|refine J7 ?_|refine J9 ?_|refine Zt ?_
  refine congrArg (fun z=>AEnd.ret (vi z)) ?_
  rw[hng];rfl
 ·have d4:decide (op=4)=false:=J1 k4
  have k5:op=5:=by omega
  have d5:decide (op=5)=true:=J0 k5
  repeat' first|refine Z1 ?_|refine Z2 ?_|refine Z5 ?_|refine Zc (J0m (decide (a=0))) ?_|refine Yej (e:=eNum) (l:=[a]) (n:=0) 0 rfl rfl ?_|refine Zo ?_|refine J6 ?_|refine Zp ?_|refine Zq ?_|refine J5 ?_|refine Jb ?_|refine J7 ?_|refine J9 ?_|refine Zt ?_
  refine congrArg (fun z=>AEnd.ret (vi z)) ?_
  rw[k5];rfl
theorem Jbp (op a b c:Int) (h:op=20):PFun X 190 [vi op,.d (.im ([a,b,c].map eNum))] (vi (apV op [a,b,c])):=by
 refine Jn Tryz.func190 rfl (by decide) Tryz.ntmps190 Tryz.results190 (by simp) rfl rfl ?_
 have d4:decide (op=4)=false:=J1 (by omega)
 have d5:decide (op=5)=false:=J1 (by omega)
 have d6:decide (op=6)=false:=J1 (by omega)
 have d7:decide (op=7)=false:=J1 (by omega)
 have d8:decide (op=8)=false:=J1 (by omega)
 have d9:decide (op=9)=false:=J1 (by omega)
 have d10:decide (op=10)=false:=J1 (by omega)
 have d11:decide (op=11)=false:=J1 (by omega)
 have d12:decide (op=12)=false:=J1 (by omega)
 have d13:decide (op=13)=false:=J1 (by omega)
 have d14:decide (op=14)=false:=J1 (by omega)
 have d15:decide (op=15)=false:=J1 (by omega)
 have d16:decide (op=16)=false:=J1 (by omega)
 have d17:decide (op=17)=false:=J1 (by omega)
 have d18:decide (op=18)=false:=J1 (by omega)
 have d19:decide (op=19)=false:=J1 (by omega)
 by_cases hz:a≠0
 ·have dz:decide (a≠0)=true:=J0 hz
  repeat' first|refine Z1 ?_|refine Z2 ?_|refine Z5 ?_|refine Yej (e:=eNum) (l:=[a,b,c]) (n:=0) 0 rfl rfl ?_|refine Yej (e:=eNum) (l:=[a,b,c]) (n:=1) 1 rfl rfl ?_|refine Zo ?_|refine J6 ?_|refine Zp ?_|refine Zq ?_|refine J5 ?_|refine J8 ?_|refine Jb ?_|refine J3 ?_|refine J7 ?_|refine J4 ?_|refine Zt ?_
  refine congrArg (fun z=>AEnd.ret (vi z)) ?_
  rw[h];exact(if_pos hz).symm
 ·have dz:decide (a≠0)=false:=J1 hz
  repeat' first|refine Z1 ?_|refine Z2 ?_|refine Z5 ?_|refine Yej (e:=eNum) (l:=[a,b,c]) (n:=0) 0 rfl rfl ?_|refine Yej (e:=eNum) (l:=[a,b,c]) (n:=2) 2 rfl rfl ?_|refine Zo ?_|refine J6 ?_|refine Zq ?_|refine J5 ?_|refine J8 ?_|refine Jb ?_|refine J3 ?_|refine J4 ?_|refine Zt ?_
  refine congrArg (fun z=>AEnd.ret (vi z)) ?_
  rw[h];exact(if_neg hz).symm
theorem Jb9 (op a b:Int) (h6:6≤op) (h19:op≤19) (ha:inR a) (hb:inR b):PFun X 190 [vi op,.d (.im ([a,b].map eNum))] (vi (apV op [a,b])):=by
 have ha2:-2147483648≤a∧a≤2147483647:=ha
 have hb2:-2147483648≤b∧b≤2147483647:=hb
 have hmul:=J8d ha hb
 have hdiv:=J74 (b:=b) ha
 refine Jn Tryz.func190 rfl (by decide) Tryz.ntmps190 Tryz.results190 (by simp) rfl rfl ?_
 have d4:decide (op=4)=false:=J1 (by omega)
 have d5:decide (op=5)=false:=J1 (by omega)
 by_cases k6:op=6
 ·have d6:decide (op=6)=true:=J0 k6
  repeat' first|refine Z1 ?_|refine Z2 ?_|refine Zw ?_|refine Zx ?_|refine Zz (Zc (J1B (a+b)) ⟨rfl,rfl⟩) ?_|refine Zz (Yej (e:=eNum) (l:=[a,b]) (n:=0) 0 rfl rfl ⟨rfl,rfl⟩) ?_|refine Zz (Yej (e:=eNum) (l:=[a,b]) (n:=1) 1 rfl rfl ⟨rfl,rfl⟩) ?_|refine Zz (Zf ⟨rfl,rfl⟩) ?_|refine Zo ?_|refine J6 ?_|refine Jx Jp (by decide +kernel) ?_|refine Zp ?_|refine Zq ?_|refine J5 ?_|refine Jb ?_|refine J7 ?_|refine J9 ?_|refine Zt ?_
  refine congrArg (fun z=>AEnd.ret (vi z)) ?_
  rw[k6];rfl
 have d6:decide (op=6)=false:=J1 k6
 by_cases k7:op=7
 ·have d7:decide (op=7)=true:=J0 k7
  repeat' first|refine Z1 ?_|refine Z2 ?_|refine Zw ?_|refine Zx ?_|refine Zz (Zc (J1B (a-b)) ⟨rfl,rfl⟩) ?_|refine Zz (Yej (e:=eNum) (l:=[a,b]) (n:=0) 0 rfl rfl ⟨rfl,rfl⟩) ?_|refine Zz (Yej (e:=eNum) (l:=[a,b]) (n:=1) 1 rfl rfl ⟨rfl,rfl⟩) ?_|refine Zz (Zg ⟨rfl,rfl⟩) ?_|refine Zo ?_|refine J6 ?_|refine Jx Jp (by decide +kernel) ?_|refine Zp ?_|refine Zq ?_|refine J5 ?_|refine Jb ?_|refine J7 ?_|refine J9 ?_|refine Zt ?_
  refine congrArg (fun z=>AEnd.ret (vi z)) ?_
  rw[k7];rfl
 have d7:decide (op=7)=false:=J1 k7
 by_cases k8:op=8
 ·have d8:decide (op=8)=true:=J0 k8
  repeat' first|refine Z1 ?_|refine Z2 ?_|refine Zw ?_|refine Zx ?_|refine Zz (Zc (J1B (a*b)) ⟨rfl,rfl⟩) ?_|refine Zz (Yg (m:=a) (n:=b) ⟨rfl,rfl⟩) ?_|refine Zz (Yej (e:=eNum) (l:=[a,b]) (n:=0) 0 rfl rfl ⟨rfl,rfl⟩) ?_|refine Zz (Yej (e:=eNum) (l:=[a,b]) (n:=1) 1 rfl rfl ⟨rfl,rfl⟩) ?_|refine Zo ?_|refine J6 ?_|refine Jx Jp (by decide +kernel) ?_|refine Zp ?_|refine Zq ?_|refine J5 ?_|refine Jb ?_|refine J7 ?_|refine J9 ?_|refine Zt ?_
  refine congrArg (fun z=>AEnd.ret (vi z)) ?_
  rw[k8];rfl
 have d8:decide (op=8)=false:=J1 k8
 by_cases k9:op=9
 ·have d9:decide (op=9)=true:=J0 k9
  by_cases hz:b=0
  ·have dz:decide (b=0)=true:=J0 hz
   repeat' first|refine Z1 ?_|refine Z2 ?_|refine Z5 ?_|refine Yej (e:=eNum) (l:=[a,b]) (n:=1) 1 rfl rfl ?_|refine Zo ?_|refine J6 ?_|refine Zp ?_|refine Zq ?_|refine J5 ?_|refine Jb ?_|refine J7 ?_|refine J9 ?_|refine Zt ?_
   refine congrArg (fun z=>AEnd.ret (vi z)) ?_
   rw[k9];exact(if_pos hz).symm
  ·have dz:decide (b=0)=false:=J1 hz
   have hw:=J1B (IntKind.i64.wrap (a.tdiv b))
   repeat' first|refine Z1 ?_|refine Z2 ?_|refine Z5 ?_|refine Yej (e:=eNum) (l:=[a,b]) (n:=1) 1 rfl rfl ?_|refine Zw ?_|refine Zx ?_|refine Zz (Zc (hw) ⟨rfl,rfl⟩) ?_|refine Zz (J81 hz rfl rfl ⟨rfl,rfl⟩) ?_|refine Zz (Yej (e:=eNum) (l:=[a,b]) (n:=0) 0 rfl rfl ⟨rfl,rfl⟩) ?_|refine Zz (Yej (e:=eNum) (l:=[a,b]) (n:=1) 1 rfl rfl ⟨rfl,rfl⟩) ?_|refine Zo ?_|refine J6 ?_|refine Jx Jp (by decide +kernel) ?_|refine Zp ?_|refine Zq ?_|refine J5 ?_|refine J8 ?_|refine Jb ?_|refine J3 ?_|refine J7 ?_|refine J9 ?_|refine Zt ?_
   refine congrArg (fun z=>AEnd.ret (vi z)) ?_
   rw[k9,Jaf (by omega)];exact(if_neg hz).symm
 have d9:decide (op=9)=false:=J1 k9
 by_cases k10:op=10
 ·have d10:decide (op=10)=true:=J0 k10
  by_cases hz:b=0
  ·have dz:decide (b=0)=true:=J0 hz
   repeat' first|refine Z1 ?_|refine Z2 ?_|refine Z5 ?_|refine Yej (e:=eNum) (l:=[a,b]) (n:=1) 1 rfl rfl ?_|refine Zo ?_|refine J6 ?_|refine Zp ?_|refine Zq ?_|refine J5 ?_|refine Jb ?_|refine J7 ?_|refine J9 ?_|refine Zt ?_
   refine congrArg (fun z=>AEnd.ret (vi z)) ?_
   rw[k10];exact(if_pos hz).symm
  ·have dz:decide (b=0)=false:=J1 hz
   repeat' first|refine Z1 ?_|refine Z2 ?_|refine Z5 ?_|refine Yej (e:=eNum) (l:=[a,b]) (n:=1) 1 rfl rfl ?_|refine Zw ?_|refine Zx ?_|refine Zz (Jc4 hz rfl rfl ⟨rfl,rfl⟩) ?_|refine Zz (Yej (e:=eNum) (l:=[a,b]) (n:=0) 0 rfl rfl ⟨rfl,rfl⟩) ?_|refine Zz (Yej (e:=eNum) (l:=[a,b]) (n:=1) 1 rfl rfl ⟨rfl,rfl⟩) ?_|refine Zo ?_|refine J6 ?_|refine Jx Jp (by decide +kernel) ?_|refine Zp ?_|refine Zq ?_|refine J5 ?_|refine J8 ?_|refine Jb ?_|refine J3 ?_|refine J7 ?_|refine J9 ?_|refine Zt ?_
   refine congrArg (fun z=>AEnd.ret (vi z)) ?_
   rw[k10];exact(if_neg hz).symm
 have d10:decide (op=10)=false:=J1 k10
 by_cases k11:op=11
 ·have d11:decide (op=11)=true:=J0 k11
  repeat' first|refine Z1 ?_|refine Z2 ?_|refine Zw ?_|refine Zx ?_|refine Zz (Zc (J0m (decide (a=b))) ⟨rfl,rfl⟩) ?_|refine Zz (Yej (e:=eNum) (l:=[a,b]) (n:=0) 0 rfl rfl ⟨rfl,rfl⟩) ?_|refine Zz (Yej (e:=eNum) (l:=[a,b]) (n:=1) 1 rfl rfl ⟨rfl,rfl⟩) ?_|refine Zo ?_|refine J6 ?_|refine Jx Jp (by decide +kernel) ?_|refine Zp ?_|refine Zq ?_|refine J5 ?_|refine Jb ?_|refine J7 ?_|refine J9 ?_|refine Zt ?_
  refine congrArg (fun z=>AEnd.ret (vi z)) ?_
  rw[k11];rfl
 have d11:decide (op=11)=false:=J1 k11
 by_cases k12:op=12
 ·have d12:decide (op=12)=true:=J0 k12
  repeat' first|refine Z1 ?_|refine Z2 ?_|refine Zw ?_|refine Zx ?_|refine Zz (Zc (J0m (decide (a≠b))) ⟨rfl,rfl⟩) ?_|refine Zz (Yej (e:=eNum) (l:=[a,b]) (n:=0) 0 rfl rfl ⟨rfl,rfl⟩) ?_|refine Zz (Yej (e:=eNum) (l:=[a,b]) (n:=1) 1 rfl rfl ⟨rfl,rfl⟩) ?_|refine Zo ?_|refine J6 ?_|refine Jx Jp (by decide +kernel) ?_|refine Zp ?_|refine Zq ?_|refine J5 ?_|refine Jb ?_|refine J7 ?_|refine J9 ?_|refine Zt ?_
  refine congrArg (fun z=>AEnd.ret (vi z)) ?_
  rw[k12];rfl
 have d12:decide (op=12)=false:=J1 k12
 by_cases k13:op=13
 ·have d13:decide (op=13)=true:=J0 k13
  repeat' first|refine Z1 ?_|refine Z2 ?_|refine Zw ?_|refine Zx ?_|refine Zz (Zc (J0m (decide (a<b))) ⟨rfl,rfl⟩) ?_|refine Zz (Yej (e:=eNum) (l:=[a,b]) (n:=0) 0 rfl rfl ⟨rfl,rfl⟩) ?_|refine Zz (Yej (e:=eNum) (l:=[a,b]) (n:=1) 1 rfl rfl ⟨rfl,rfl⟩) ?_|refine Zo ?_|refine J6 ?_|refine Jx Jp (by decide +kernel) ?_|refine Zp ?_|refine Zq ?_|refine J5 ?_|refine Jb ?_|refine J7 ?_|refine J9 ?_|refine Zt ?_
  refine congrArg (fun z=>AEnd.ret (vi z)) ?_
  rw[k13];rfl
 have d13:decide (op=13)=false:=J1 k13
 by_cases k14:op=14
 ·have d14:decide (op=14)=true:=J0 k14
  repeat' first|refine Z1 ?_|refine Z2 ?_|refine Zw ?_|refine Zx ?_|refine Zz (Zc (J0m (decide (a≤b))) ⟨rfl,rfl⟩) ?_|refine Zz (Yej (e:=eNum) (l:=[a,b]) (n:=0) 0 rfl rfl ⟨rfl,rfl⟩) ?_|refine Zz (Yej (e:=eNum) (l:=[a,b]) (n:=1) 1 rfl rfl ⟨rfl,rfl⟩) ?_|refine Zo ?_|refine J6 ?_|refine Jx Jp (by decide +kernel) ?_|refine Zp ?_|refine Zq ?_|refine J5 ?_|refine Jb ?_|refine J7 ?_|refine J9 ?_|refine Zt ?_
  refine congrArg (fun z=>AEnd.ret (vi z)) ?_
  rw[k14];rfl
 have d14:decide (op=14)=false:=J1 k14
 by_cases k15:op=15
 ·have d15:decide (op=15)=true:=J0 k15
  repeat' first|refine Z1 ?_|refine Z2 ?_|refine Zw ?_|refine Zx ?_|refine Zz (Zc (J0m (decide (b<a))) ⟨rfl,rfl⟩) ?_|refine Zz (Yej (e:=eNum) (l:=[a,b]) (n:=0) 0 rfl rfl ⟨rfl,rfl⟩) ?_|refine Zz (Yej (e:=eNum) (l:=[a,b]) (n:=1) 1 rfl rfl ⟨rfl,rfl⟩) ?_|refine Zo ?_|refine J6 ?_|refine Jx Jp (by decide +kernel) ?_|refine Zp ?_|refine Zq ?_|refine J5 ?_|refine Jb ?_|refine J7 ?_|refine J9 ?_|refine Zt ?_
  refine congrArg (fun z=>AEnd.ret (vi z)) ?_
  rw[k15];rfl
 have d15:decide (op=15)=false:=J1 k15
 by_cases k16:op=16
 ·have d16:decide (op=16)=true:=J0 k16
  repeat' first|refine Z1 ?_|refine Z2 ?_|refine Zw ?_|refine Zx ?_|refine Zz (Zc (J0m (decide (b≤a))) ⟨rfl,rfl⟩) ?_|refine Zz (Yej (e:=eNum) (l:=[a,b]) (n:=0) 0 rfl rfl ⟨rfl,rfl⟩) ?_|refine Zz (Yej (e:=eNum) (l:=[a,b]) (n:=1) 1 rfl rfl ⟨rfl,rfl⟩) ?_|refine Zo ?_|refine J6 ?_|refine Jx Jp (by decide +kernel) ?_|refine Zp ?_|refine Zq ?_|refine J5 ?_|refine Jb ?_|refine J7 ?_|refine J9 ?_|refine Zt ?_
  refine congrArg (fun z=>AEnd.ret (vi z)) ?_
  rw[k16];rfl
 have d16:decide (op=16)=false:=J1 k16
 by_cases k17:op=17
 ·have d17:decide (op=17)=true:=J0 k17
  by_cases hz:a≠0
  ·have dz:decide (a≠0)=true:=J0 hz
   repeat' first|refine Z1 ?_|refine Z2 ?_|refine Z5 ?_|refine Z7 ?_|refine Zc (J0m (decide (b≠0))) ?_|refine Yej (e:=eNum) (l:=[a,b]) (n:=0) 0 rfl rfl ?_|refine Yej (e:=eNum) (l:=[a,b]) (n:=1) 1 rfl rfl ?_|refine Zh ?_|refine Zi ?_|refine Zl ?_|refine Zo ?_|refine J6 ?_|refine Zp ?_|refine Zq ?_|refine J5 ?_|refine Jb ?_|refine J7 ?_|refine J9 ?_|refine Zt ?_
   refine congrArg (fun z=>AEnd.ret (vi z)) ?_
   rw[k17];show _=bitI (decide (a≠0)&&decide (b≠0));rw[dz];rfl
  ·have dz:decide (a≠0)=false:=J1 hz
   repeat' first|refine Z1 ?_|refine Z2 ?_|refine Z5 ?_|refine Z8 ?_|refine Zc (J0m false) ?_|refine Yej (e:=eNum) (l:=[a,b]) (n:=0) 0 rfl rfl ?_|refine Zm ?_|refine Zo ?_|refine J6 ?_|refine Zp ?_|refine Zq ?_|refine J5 ?_|refine Jb ?_|refine J7 ?_|refine J9 ?_|refine Zt ?_
   refine congrArg (fun z=>AEnd.ret (vi z)) ?_
   rw[k17];show _=bitI (decide (a≠0)&&decide (b≠0));rw[dz];rfl
 have d17:decide (op=17)=false:=J1 k17
 by_cases k18:op=18
 ·have d18:decide (op=18)=true:=J0 k18
  by_cases hz:a≠0
  ·have dz:decide (a≠0)=true:=J0 hz
   repeat' first|refine Z1 ?_|refine Z2 ?_|refine Z5 ?_|refine Z9 ?_|refine Zc (J0m true) ?_|refine Yej (e:=eNum) (l:=[a,b]) (n:=0) 0 rfl rfl ?_|refine Zl ?_|refine Zo ?_|refine J6 ?_|refine Zp ?_|refine Zq ?_|refine J5 ?_|refine Jb ?_|refine J7 ?_|refine J9 ?_|refine Zt ?_
   refine congrArg (fun z=>AEnd.ret (vi z)) ?_
   rw[k18];show _=bitI (decide (a≠0)||decide (b≠0));rw[dz];rfl
  ·have dz:decide (a≠0)=false:=J1 hz
   repeat' first|refine Z1 ?_|refine Z2 ?_|refine Z5 ?_|refine Z7 ?_|refine Zc (J0m (decide (b≠0))) ?_|refine Yej (e:=eNum) (l:=[a,b]) (n:=0) 0 rfl rfl ?_|refine Yej (e:=eNum) (l:=[a,b]) (n:=1) 1 rfl rfl ?_|refine Zh ?_|refine Zi ?_|refine Zm ?_|refine Zo ?_|refine J6 ?_|refine Zp ?_|refine Zq ?_|refine J5 ?_|refine Jb ?_|refine J7 ?_|refine J9 ?_|refine Zt ?_
   refine congrArg (fun z=>AEnd.ret (vi z)) ?_
   rw[k18];show _=bitI (decide (a≠0)||decide (b≠0));rw[dz];rfl
 have d18:decide (op=18)=false:=J1 k18
 have k19:op=19:=by omega
 have d19:decide (op=19)=true:=J0 k19
 repeat' first|refine Z1 ?_|refine Z2 ?_|refine Zw ?_|refine Zx ?_|refine Zz (Zc (J0m (decide (a≠0) != decide (b≠0))) ⟨rfl,rfl⟩) ?_|refine Zz (Yej (e:=eNum) (l:=[a,b]) (n:=0) 0 rfl rfl ⟨rfl,rfl⟩) ?_|refine Zz (Yej (e:=eNum) (l:=[a,b]) (n:=1) 1 rfl rfl ⟨rfl,rfl⟩) ?_|refine Zz (Zj ⟨rfl,rfl⟩) ?_|refine Zo ?_|refine J6 ?_|refine Jx Jp (by decide +kernel) ?_|refine Zp ?_|refine Zq ?_|refine J5 ?_|refine Jb ?_|refine J7 ?_|refine J9 ?_|refine Zt ?_
 refine congrArg (fun z=>AEnd.ret (vi z)) ?_
 rw[k19];rfl
theorem J4v (l:List Int) (hl:l.length≤1048576):PFun X 27 [.d (.im (l.map eNum))] (vb (l.all fitS)):=by
 refine Jn Tryz.func27 rfl (by decide) Tryz.ntmps27 Tryz.results27 (by simp) rfl rfl ?_
 repeat' first|refine Z1 ?_|refine Z2 ?_|refine Z5 ?_|refine Zd ?_|refine Zo ?_|refine J6 ?_|refine J5 ?_
 refine Jq (ι:=Nat) (fun x=>envL [(5,.d (.im (l.map eNum))),(6,vi l.length),(7,vi x)]) (fun x=>stL []) (fun x=>x≤l.length∧(l.drop x).all fitS=l.all fitS) (fun x=>l.length-x) 0 (⟨Nat.zero_le _,rfl⟩) (Jj rfl ⟨.refl _,.refl _,.refl _,trivial⟩ trivial) (fun _=>Nat.le_refl 0) ?_
 rintro k ⟨i1,i2⟩
 rcases hx:l[k]? with _|x
 ·have hle:=Jo hx
  have ek:decide ((k:Int)<(l.length:Int))=false:=J1 (by omega)
  rw[Jr hx]at i2
  repeat' first|refine Z1 ?_|refine Z2 ?_|refine Zo ?_|refine J6 ?_|refine Zq ?_|refine Jh ?_|refine Jb ?_|refine J3 ?_|refine Ja ?_|refine Zv ?_|refine Zt ?_
  exact Jm i2
 ·obtain⟨hdr,hlt⟩:=Ji hx
  have ek:decide ((k:Int)<(l.length:Int))=true:=J0 (by omega)
  rw[hdr,List.all_cons]at i2
  by_cases hv:x≠wrapS x
  ·have dv:decide (x≠wrapS x)=true:=J0 hv
   have e:fitS x=false:=J1 hv
   rw[e]at i2
   repeat' first|refine Z1 ?_|refine Z2 ?_|refine Z5 ?_|refine Zc (J23 x) ?_|refine Ze ?_|refine Zo ?_|refine J6 ?_|refine Zp ?_|refine J5 ?_|refine J8 ?_|refine Jb ?_|refine J3 ?_|refine J7 ?_|refine J9 ?_|refine Zt ?_
   exact Jm i2
  ·have dv:decide (x≠wrapS x)=false:=J1 hv
   have e:fitS x=true:=J0 (by simpa using hv)
   rw[e,Bool.true_and]at i2
   repeat' first|refine Z1 ?_|refine Z2 ?_|refine Z5 ?_|refine Zc (J23 x) ?_|refine Ze ?_|refine Zf ?_|refine Zo ?_|refine J6 ?_|refine Jf ?_|refine Zp ?_|refine Zq ?_|refine J5 ?_|refine J8 ?_|refine J3 ?_|refine J4 ?_
   exact⟨k+1,⟨hlt,i2⟩,by(try simp only);omega,Jl (Nat.zero_le _) ⟨⟨rfl,rfl⟩,⟨rfl,rfl⟩,⟨rfl,rfl⟩,trivial⟩ trivial⟩
end Go.Pm
/- Part of the proof: Mc1. -/
namespace Go.Pm
attribute [local irreducible] AR Ok inBlock andThen endQ aoper
set_option maxHeartbeats 1000000
open Go.Proofs
def valI (v:Int):Bool:=decide (-2147483648≤v)&&decide (v≤2147483647)
theorem J51 (v:Int):PFun X 31 [vi v] (vb (valI v)):=by
 refine Jn Tryz.func31 rfl (by decide) Tryz.ntmps31 Tryz.results31 (by simp) rfl rfl ?_
 repeat' first|refine Z1 ?_|refine Z2 ?_|refine Z5 ?_|refine Z7 ?_|refine Z8 ?_|refine Za (fun hc=>?_) (fun hc=>?_)|refine Zh ?_|refine Zi ?_|refine Zl ?_|refine Zm ?_|refine Zo ?_|refine Jb ?_|refine Zt ?_
 all_goals simp[valI, *]
def ciI (F:List (ByteArray×Int)) (n:Int) (x:Itm):Bool:=
 if x.op=25 then(if x.val<0∨n≤x.val∨x.name≠⟨#[]⟩then false else true)
 else if x.op<1∨20<x.op∨itemI x=false then false
 else if x.op=3 then(sfind F x.name).isSome else true
def codeI (F:List (ByteArray×Int)) (n:Int) (l:List Itm):Bool:=if(l.length:Int)<1∨6000<(l.length:Int)then false else l.all (ciI F n)&&postI 0 l
theorem J5t {σ':St} {o:AO} (h:σ'.obj 0=some o):∀j,j<[some o].length→σ'.obj j=(stL [some o]).obj j:=by
 intro j hj
 have:j=0:=by simp at hj;omega
 subst this;exact h
theorem Jcr (F:List (ByteArray×Int)) (n:Int) (l:List Itm) (hl:l.length≤1048576):AFun X 117 [.d (.im (l.map eItm)),.mp 0,vi n] (stL [some (.map .string (smap vi F))]) fun E σ'=>E=.ret (vb (codeI F n l))∧∀j,j<[some (AO.map .string (smap vi F))].length→σ'.obj j=(stL [some (.map .string (smap vi F))]).obj j:=by
 refine Jw Tryz.func117 rfl (by decide) Tryz.ntmps117 Tryz.results117 (by simp) ?_
 by_cases hbig:(l.length:Int)<1∨6000<(l.length:Int)
 ·have hn:codeI F n l=false:=by simp[codeI,hbig]
  by_cases h1:(l.length:Int)<1
  ·have e1:decide ((l.length:Int)<1)=true:=J0 h1
   repeat' first|refine Z1 ?_|refine Z2 ?_|refine Z5 ?_|refine Z9 ?_|refine Zd ?_|refine Zl ?_|refine Zo ?_|refine J6 ?_|refine Zp ?_|refine Jb ?_|refine J7 ?_|refine Zt ?_
   exact⟨Jm hn.symm,J5t rfl⟩
  ·have e1:decide ((l.length:Int)<1)=false:=J1 h1
   have e2:decide (6000<(l.length:Int))=true:=J0 (by omega)
   repeat' first|refine Z1 ?_|refine Z2 ?_|refine Z5 ?_|refine Z7 ?_|refine Zd ?_|refine Zh ?_|refine Zi ?_|refine Zm ?_|refine Zo ?_|refine J6 ?_|refine Zp ?_|refine Jb ?_|refine J7 ?_|refine Zt ?_
   exact⟨Jm hn.symm,J5t rfl⟩
 have e1:decide ((l.length:Int)<1)=false:=J1 (by omega)
 have e2:decide (6000<(l.length:Int))=false:=J1 (by omega)
 have hn:codeI F n l=(l.all (ciI F n)&&postI 0 l):=by simp only[codeI,hbig,if_false]
 repeat' first|refine Z1 ?_|refine Z2 ?_|refine Z5 ?_|refine Z7 ?_|refine Zd ?_|refine Zh ?_|refine Zi ?_|refine Zm ?_|refine Zo ?_|refine J6 ?_|refine Zq ?_|refine J5 ?_|refine J8 ?_|refine J3 ?_
 refine Jq (ι:=Nat) (fun x=>envL [(0,.d (.im (l.map eItm))),(1,.mp 0),(2,vi n),(19,.d (.im (l.map eItm))),(20,vi l.length),(21,vi x)]) (fun x=>stL [some (.map .string (smap vi F))]) (fun x=>x≤l.length∧((l.drop x).all (ciI F n)&&postI 0 l)=codeI F n l) (fun x=>l.length-x) 0 (⟨Nat.zero_le _,by rw[hn];simp⟩) (Jj rfl ⟨.refl _,.refl _,.refl _,.refl _,.refl _,.refl _,trivial⟩ ⟨⟨rfl,_,rfl,rfl,rfl⟩,trivial⟩) (fun _=>Nat.le_refl 1) ?_
 rintro k ⟨i1,i2⟩
 rcases hx:l[k]? with _|x
 ·have hle:=Jo hx
  have ek:decide ((k:Int)<(l.length:Int))=false:=J1 (by omega)
  rw[Jr hx]at i2
  repeat' first|refine Z1 ?_|refine Z2 ?_|refine Z5 ?_|refine Zc (J85 l (by omega)) ?_|refine Zo ?_|refine J6 ?_|refine Zq ?_|refine Jh ?_|refine Jb ?_|refine J3 ?_|refine Ja ?_|refine Zv ?_|refine Zt ?_
  exact⟨Jm i2,J5t rfl⟩
 obtain⟨hd,hlt⟩:=Ji hx
 have ek:decide ((k:Int)<(l.length:Int))=true:=J0 (by omega)
 rw[hd,List.all_cons]at i2
 have fin:ciI F n x=false→false=codeI F n l:=fun h=>by rw[←i2,h];rfl
 have go:ciI F n x=true→((l.drop (k+1)).all (ciI F n)&&postI 0 l)=codeI F n l:=fun h=>by rw[←i2,h];rfl
 by_cases o25:x.op=25
 ·have d1:decide (x.op=25)=true:=J0 o25
  by_cases hb:x.val<0∨n≤x.val∨x.name≠⟨#[]⟩
  ·have hf:=fin (by simp only[ciI,o25,if_true,hb])
   by_cases h1:x.val<0
   ·have d2:decide (x.val<0)=true:=J0 h1
    repeat' first|refine Z1 ?_|refine Z2 ?_|refine Z5 ?_|refine Z9 ?_|refine Ze ?_|refine Zl ?_|refine Zo ?_|refine J6 ?_|refine Zp ?_|refine J5 ?_|refine J8 ?_|refine Jb ?_|refine J3 ?_|refine J7 ?_|refine J9 ?_|refine Zt ?_
    exact⟨Jm hf,J5t rfl⟩
   have d2:decide (x.val<0)=false:=J1 h1
   by_cases h2:n≤x.val
   ·have d3:decide (n≤x.val)=true:=J0 h2
    repeat' first|refine Z1 ?_|refine Z2 ?_|refine Z5 ?_|refine Z7 ?_|refine Z9 ?_|refine Ze ?_|refine Zh ?_|refine Zi ?_|refine Zl ?_|refine Zm ?_|refine Zo ?_|refine J6 ?_|refine Zp ?_|refine J5 ?_|refine J8 ?_|refine Jb ?_|refine J3 ?_|refine J7 ?_|refine J9 ?_|refine Zt ?_
    exact⟨Jm hf,J5t rfl⟩
   have d3:decide (n≤x.val)=false:=J1 h2
   have d4:decide (x.name≠⟨#[]⟩)=true:=J0 (by rcases hb with h|h|h;exact absurd h h1;exact absurd h h2;exact h)
   repeat' first|refine Z1 ?_|refine Z2 ?_|refine Z5 ?_|refine Z7 ?_|refine Ze ?_|refine Zh ?_|refine Zi ?_|refine Zm ?_|refine Zo ?_|refine J6 ?_|refine Zp ?_|refine J5 ?_|refine J8 ?_|refine Jb ?_|refine J3 ?_|refine J7 ?_|refine J9 ?_|refine Zt ?_
   exact⟨Jm hf,J5t rfl⟩
  ·have d2:decide (x.val<0)=false:=J1 (fun h=>hb (.inl h))
   have d3:decide (n≤x.val)=false:=J1 (fun h=>hb (.inr (.inl h)))
   have d4:decide (x.name≠⟨#[]⟩)=false:=J1 (fun h=>hb (.inr (.inr h)))
   have hg:=go (by simp only[ciI,o25,if_true,hb,if_false])
   repeat' first|refine Z1 ?_|refine Z2 ?_|refine Z5 ?_|refine Z7 ?_|refine Ze ?_|refine Zf ?_|refine Zh ?_|refine Zi ?_|refine Zm ?_|refine Zo ?_|refine J6 ?_|refine Jf ?_|refine Zp ?_|refine Zq ?_|refine J5 ?_|refine J8 ?_|refine J3 ?_|refine J4 ?_
   exact⟨k+1,⟨hlt,hg⟩,by(try simp only);omega,Jl (Nat.le_of_ble_eq_true rfl) ⟨⟨rfl,rfl⟩,⟨rfl,rfl⟩,⟨rfl,rfl⟩,⟨rfl,rfl⟩,⟨rfl,rfl⟩,⟨rfl,rfl⟩,trivial⟩ ⟨⟨rfl,Jk (fun _=>rfl) _⟩,trivial⟩⟩
 have d1:decide (x.op=25)=false:=J1 o25
 by_cases hb:x.op<1∨20<x.op∨itemI x=false
 ·have hf:=fin (by simp only[ciI,o25,if_false,hb,if_true])
  by_cases h1:x.op<1
  ·have d2:decide (x.op<1)=true:=J0 h1
   repeat' first|refine Z1 ?_|refine Z2 ?_|refine Z5 ?_|refine Z9 ?_|refine Ze ?_|refine Zl ?_|refine Zo ?_|refine J6 ?_|refine Zp ?_|refine Zq ?_|refine J5 ?_|refine J8 ?_|refine Jb ?_|refine J3 ?_|refine J7 ?_|refine J9 ?_|refine Zt ?_
   exact⟨Jm hf,J5t rfl⟩
  have d2:decide (x.op<1)=false:=J1 h1
  by_cases h2:20<x.op
  ·have d3:decide (20<x.op)=true:=J0 h2
   repeat' first|refine Z1 ?_|refine Z2 ?_|refine Z5 ?_|refine Z7 ?_|refine Z9 ?_|refine Ze ?_|refine Zh ?_|refine Zi ?_|refine Zl ?_|refine Zm ?_|refine Zo ?_|refine J6 ?_|refine Zp ?_|refine Zq ?_|refine J5 ?_|refine J8 ?_|refine Jb ?_|refine J3 ?_|refine J7 ?_|refine J9 ?_|refine Zt ?_
   exact⟨Jm hf,J5t rfl⟩
  have d3:decide (20<x.op)=false:=J1 h2
  have d4:(!itemI x)=true:=by rcases hb with h|h|h;exact absurd h h1;exact absurd h h2;rw[h];rfl
  repeat' first|refine Z1 ?_|refine Z2 ?_|refine Z5 ?_|refine Z7 ?_|refine Zc (J48 x) ?_|refine Ze ?_|refine Zh ?_|refine Zi ?_|refine Zm ?_|refine Zo ?_|refine J6 ?_|refine Zp ?_|refine Zq ?_|refine J5 ?_|refine J8 ?_|refine Jb ?_|refine J3 ?_|refine J7 ?_|refine J9 ?_|refine Zt ?_
  exact⟨Jm hf,J5t rfl⟩
 have d2:decide (x.op<1)=false:=J1 (fun h=>hb (.inl h))
 have d3:decide (20<x.op)=false:=J1 (fun h=>hb (.inr (.inl h)))
 have d4:(!itemI x)=false:=by cases hq:itemI x with|true=>rfl|false=>exact absurd (.inr (.inr hq)) hb
 by_cases o3:x.op=3
 ·have d5:decide (x.op=3)=true:=J0 o3
  cases hs:(sfind F x.name).isSome with
  |false=>
   have d6:(!(sfind F x.name).isSome)=true:=by rw[hs];rfl
   have hf:=fin (by simp only[ciI,o25,hb,if_false];rw[if_pos o3];exact hs)
   repeat' first|refine Z1 ?_|refine Z2 ?_|refine Z5 ?_|refine Z7 ?_|refine Zc (J48 x) ?_|refine Ya (e:=vi) ?_|refine Ze ?_|refine Zh ?_|refine Zi ?_|refine Zm ?_|refine Zo ?_|refine J6 ?_|refine Zp ?_|refine Zq ?_|refine J5 ?_|refine J8 ?_|refine Jb ?_|refine J3 ?_|refine J7 ?_|refine J9 ?_|refine Zt ?_
   exact⟨Jm hf,J5t rfl⟩
  |true=>
   have d6:(!(sfind F x.name).isSome)=false:=by rw[hs];rfl
   have hg:=go (by simp only[ciI,o25,hb,if_false];rw[if_pos o3];exact hs)
   repeat' first|refine Z1 ?_|refine Z2 ?_|refine Z5 ?_|refine Z7 ?_|refine Zc (J48 x) ?_|refine Ya (e:=vi) ?_|refine Ze ?_|refine Zf ?_|refine Zh ?_|refine Zi ?_|refine Zm ?_|refine Zo ?_|refine J6 ?_|refine Jf ?_|refine Zp ?_|refine Zq ?_|refine J5 ?_|refine J8 ?_|refine J3 ?_|refine J4 ?_
   exact⟨k+1,⟨hlt,hg⟩,by(try simp only);omega,Jl (Nat.le_of_ble_eq_true rfl) ⟨⟨rfl,rfl⟩,⟨rfl,rfl⟩,⟨rfl,rfl⟩,⟨rfl,rfl⟩,⟨rfl,rfl⟩,⟨rfl,rfl⟩,trivial⟩ ⟨⟨rfl,Jk (fun _=>rfl) _⟩,trivial⟩⟩
 ·have d5:decide (x.op=3)=false:=J1 o3
  have hg:=go (by simp only[ciI,o25,hb,if_false,o3])
  repeat' first|refine Z1 ?_|refine Z2 ?_|refine Z5 ?_|refine Z7 ?_|refine Zc (J48 x) ?_|refine Ze ?_|refine Zf ?_|refine Zh ?_|refine Zi ?_|refine Zm ?_|refine Zo ?_|refine J6 ?_|refine Jf ?_|refine Zp ?_|refine Zq ?_|refine J5 ?_|refine J8 ?_|refine J3 ?_|refine J4 ?_
  exact⟨k+1,⟨hlt,hg⟩,by(try simp only);omega,Jl (Nat.le_of_ble_eq_true rfl) ⟨⟨rfl,rfl⟩,⟨rfl,rfl⟩,⟨rfl,rfl⟩,⟨rfl,rfl⟩,⟨rfl,rfl⟩,⟨rfl,rfl⟩,trivial⟩ ⟨⟨rfl,Jk (fun _=>rfl) _⟩,trivial⟩⟩
theorem J2g (F:List (ByteArray×Int)) (n:Int) (l:List Itm) (hl:l.length≤1048576) {σ:St} {i:Nat} (hi:i<σ.next) (ho:σ.obj i=some (.map .string (smap vi F))):AFun X 117 [.d (.im (l.map eItm)),.mp i,vi n] σ fun E σ'=>E=.ret (vb (codeI F n l))∧σ'=σ:=by
 have one:∀(j:Nat) (o:AO),([some (AO.map .string (smap vi F))][j]?).join=some o→j=0∧o=.map .string (smap vi F):=by
  intro j o h
  match j,h with
  |0,h=>exact⟨rfl,by simpa using h.symm⟩
  |j+1,h=>simp at h
 refine AFun.ro (Jcr F n l hl) (fun j o h=>?_) rfl rfl (fun _=>i) (fun a b o o' h h' _=>by rw[(one a o h).1,(one b o' h').1]) (fun j _=>hi) (fun j o h=>?_)
 ·obtain⟨rfl,rfl⟩:=one j o h
  exact Jk (fun _=>rfl) F
 ·obtain⟨rfl,rfl⟩:=one j o h
  rw[ho];exact Jt F (fun _=>rfl)
end Go.Pm
/- Part of the proof: Gr2. -/
namespace Go.Pm
attribute [local irreducible] AR Ok inBlock andThen endQ aoper
set_option maxHeartbeats 1000000
open Go.Proofs
inductive Tag where
 |non|rc|sc|rr|sr|nd (a:Nat)|ny (a:Nat)|nn (a:Nat)|op (o:Nat)
 deriving DecidableEq
structure Gs where
 nd:Nat→Option Gn
 root:List Nat
 stk:List On
 rr:Nat
 rh:Nat
 sa:Bool
 sr:Nat
 sh:Nat
def prf (a:Nat):List AV:=[.ref a 0]
def orf (x:On):List AV:=[.ref x.o 0]
def ncell (g:Gn):List AV:=(eSm g.s).map .d++[slcN g.y g.hy g.yes.length,slcN g.n g.hn g.no.length]
structure GRep (σ:St) (G:Gs) (κ:Nat→Tag) (c:Nat):Prop where
 lt:∀i,κ i≠.non→i<σ.next
 k0:κ 0=.rc
 k1:κ 1=.sc
 r0:σ.obj 0=some (.var [slcN G.rr G.rh G.root.length])
 r1:σ.obj 1=some (.var [slcB G.sa G.sr G.sh G.stk.length])
 sa:G.sa=false→G.stk=[]
 rr:G.root≠[]→σ.obj G.rr=some (.row G.rh 131 1 (G.root.map prf))∧κ G.rr=.rr
 sr:G.sa=true→(∃rows,σ.obj G.sr=some (.row G.sh 143 1 rows)∧rows.take G.stk.length=G.stk.reverse.map orf∧G.stk.length≤rows.length)∧κ G.sr=.sr
 nd:∀a g,G.nd a=some g→σ.obj a=some (.var (ncell g))∧κ a=.nd a∧(g.yes≠[]→σ.obj g.y=some (.row g.hy 131 1 (g.yes.map prf))∧κ g.y=.ny a)∧(g.no≠[]→σ.obj g.n=some (.row g.hn 131 1 (g.no.map prf))∧κ g.n=.nn a)
 op:∀x∈G.stk,σ.obj x.o=some (.var [.ref x.a 0,vb x.els])∧κ x.o=.op x.o∧∃g,G.nd x.a=some g
 bd:G.root.length≤c∧G.stk.length≤c∧∀a g,G.nd a=some g→g.yes.length≤c∧g.no.length≤c
def Gs.put (G:Gs) (M i h:Nat):Gs:=
 match G.stk with
 |[]=>{G with root:=G.root++[M],rr:=i,rh:=h}
 |x::_=>{G with nd:=fun a=>if a=x.a then(G.nd a).map fun g=>if x.els then {g with no:=g.no++[M],n:=i,hn:=h}else {g with yes:=g.yes++[M],y:=i,hy:=h}else G.nd a}
theorem Tag.ne_non_rr {t:Tag} (h:t=.rr):t≠.non:=by subst h;intro h;cases h
theorem GRep.put_root {σ σ2:St} {G:Gs} {κ:Nat→Tag} {c M i hN:Nat} (h:GRep σ G κ c) (hst:G.stk=[]) (hn:σ.next<σ2.next) (hi:(G.root=[]∧σ.next≤i∧i<σ2.next)∨(G.root≠[]∧i=G.rr))
  (f0:σ2.obj 0=some (.var [.sl i hN 0 (G.root.length+1)])) (fr:σ2.obj i=some (.row hN 131 1 ((G.root++[M]).map prf))) (fo:∀j,κ j≠.non→j≠0→j≠i→σ2.obj j=σ.obj j):
  ∃κ',GRep σ2 (G.put M i hN) κ' (c+1)∧∀j,κ j≠.non→κ' j=κ j:=by
 obtain⟨hb1,hb2,hb3⟩:=h.bd
 have hold:∀j,κ j≠.non→κ j≠.rr→j≠i:=by
  intro j h1 h2 e
  subst e
  rcases hi with⟨_,h3,_⟩|⟨h3,h4⟩
  ·have:=h.lt j h1;omega
  ·subst h4;exact h2 (h.rr h3).2
 have hκ:∀j,κ j≠.non→(if j=i then Tag.rr else κ j)=κ j:=by
  intro j h1
  by_cases hj:j=i
  ·rw[if_pos hj]
   apply Classical.byContradiction
   intro h2
   exact hold j h1 (fun h3=>h2 h3.symm) hj
  ·rw[if_neg hj]
 have t0:κ 0≠.non:=by rw[h.k0];intro h;cases h
 have t1:κ 1≠.non:=by rw[h.k1];intro h;cases h
 refine⟨fun j=>if j=i then .rr else κ j,?_,hκ⟩
 have hG:G.put M i hN={G with root:=G.root++[M],rr:=i,rh:=hN}:=by simp only[Gs.put,hst]
 rw[hG]
 refine⟨fun j hj=>?_,by rw[hκ 0 t0];exact h.k0,by rw[hκ 1 t1];exact h.k1,?_,?_,h.sa,fun _=>⟨fr,if_pos rfl⟩,fun hs=>?_,fun a g hg=>?_,fun x hx=>?_,?_⟩
 ·by_cases hji:j=i
  ·subst hji
   rcases hi with⟨_,_,h3⟩|⟨h3,h4⟩
   ·exact h3
   ·have:=h.lt j (by rw[h4];exact Tag.ne_non_rr (h.rr h3).2);omega
  ·have hj':κ j≠.non:=by simpa[hji]using hj
   have:=h.lt j hj';omega
 ·rw[f0];simp only[List.length_append,List.length_singleton];rw[J1v (by omega)]
 ·rw[fo 1 t1 (by omega) (hold 1 t1 (by rw[h.k1];intro h;cases h))];exact h.r1
 ·obtain⟨⟨rows,s1,s2,s3⟩,s4⟩:=h.sr hs
  have ts:κ G.sr≠.non:=by rw[s4];intro h;cases h
  have hs0:G.sr≠0:=fun e=>by rw[e,h.k0]at s4;cases s4
  exact⟨⟨rows,by rw[fo _ ts hs0 (hold _ ts (by rw[s4];intro h;cases h))];exact s1,s2,s3⟩,by rw[hκ _ ts];exact s4⟩
 ·obtain⟨g1,g2,g3,g4⟩:=h.nd a g hg
  have ta:κ a≠.non:=by rw[g2];intro h;cases h
  have ha0:a≠0:=fun e=>by subst e;rw[h.k0]at g2;cases g2
  refine⟨by rw[fo a ta ha0 (hold a ta (by rw[g2];intro h;cases h))];exact g1,by rw[hκ a ta];exact g2,fun hy=>?_,fun hy=>?_⟩
  ·obtain⟨y1,y2⟩:=g3 hy
   have ty:κ g.y≠.non:=by rw[y2];intro h;cases h
   have hy0:g.y≠0:=fun e=>by rw[e,h.k0]at y2;cases y2
   exact⟨by rw[fo _ ty hy0 (hold _ ty (by rw[y2];intro h;cases h))];exact y1,by rw[hκ _ ty];exact y2⟩
  ·obtain⟨y1,y2⟩:=g4 hy
   have ty:κ g.n≠.non:=by rw[y2];intro h;cases h
   have hy0:g.n≠0:=fun e=>by rw[e,h.k0]at y2;cases y2
   exact⟨by rw[fo _ ty hy0 (hold _ ty (by rw[y2];intro h;cases h))];exact y1,by rw[hκ _ ty];exact y2⟩
 ·simp only[hst]at hx;cases hx
 ·refine⟨by simp only[List.length_append,List.length_singleton];omega,by simp only[hst,List.length_nil];omega,fun a g hg=>?_⟩
  have:=hb3 a g hg
  omega
theorem GRep.put_node {σ σ2:St} {G:Gs} {κ:Nat→Tag} {c M i hN:Nat} {x:On} {st:List On} {g:Gn} (h:GRep σ G κ c) (hst:G.stk=x::st) (hg:G.nd x.a=some g) (hn:σ.next<σ2.next)
  (hi:((if x.els then g.no else g.yes)=[]∧σ.next≤i∧i<σ2.next)∨((if x.els then g.no else g.yes)≠[]∧i=if x.els then g.n else g.y))
  (f0:σ2.obj x.a=some (.var (ncell (if x.els then {g with no:=g.no++[M],n:=i,hn:=hN}else {g with yes:=g.yes++[M],y:=i,hy:=hN}))))
  (fr:σ2.obj i=some (.row hN 131 1 (((if x.els then g.no else g.yes)++[M]).map prf))) (fo:∀j,κ j≠.non→j≠x.a→j≠i→σ2.obj j=σ.obj j):
  ∃κ',GRep σ2 (G.put M i hN) κ' (c+1)∧∀j,κ j≠.non→κ' j=κ j:=by
 obtain⟨hb1,hb2,hb3⟩:=h.bd
 obtain⟨x1,x2,x3,x4⟩:=h.nd x.a g hg
 -- the tag of the row that is written
 obtain⟨tg,htg,htn⟩:∃tg,tg=(if x.els then Tag.nn x.a else Tag.ny x.a)∧tg≠.non:=⟨_,rfl,by split<;>(intro h;cases h)⟩
 have hitg:(if x.els then g.no else g.yes)≠[]→κ (if x.els then g.n else g.y)=tg:=by
  intro hne
  rw[htg]
  cases he:x.els with
  |true=>rw[he]at hne;exact(x4 hne).2
  |false=>rw[he]at hne;exact(x3 hne).2
 have hold:∀j,κ j≠.non→κ j≠tg→j≠i:=by
  intro j h1 h2 e
  subst e
  rcases hi with⟨_,h3,_⟩|⟨h3,h4⟩
  ·have:=h.lt j h1;omega
  ·rw[h4]at h2;exact h2 (hitg h3)
 have hκ:∀j,κ j≠.non→(if j=i then tg else κ j)=κ j:=by
  intro j h1
  by_cases hj:j=i
  ·rw[if_pos hj]
   apply Classical.byContradiction
   intro h2
   exact hold j h1 (fun h3=>h2 h3.symm) hj
  ·rw[if_neg hj]
 have tgne:tg≠.rc∧tg≠.sc∧tg≠.rr∧tg≠.sr∧(∀b,tg≠.nd b)∧(∀o,tg≠.op o):=by
  rw[htg];split<;>refine⟨?_,?_,?_,?_,?_,?_⟩<;>(first|(intro b h;cases h;done)|(intro h;cases h))
 have t0:κ 0≠.non:=by rw[h.k0];intro h;cases h
 have t1:κ 1≠.non:=by rw[h.k1];intro h;cases h
 have hput:G.put M i hN={G with nd:=fun a=>if a=x.a then(G.nd a).map fun g=>if x.els then {g with no:=g.no++[M],n:=i,hn:=hN}else {g with yes:=g.yes++[M],y:=i,hy:=hN}else G.nd a}:=by simp only[Gs.put,hst]
 refine⟨fun j=>if j=i then tg else κ j,?_,hκ⟩
 rw[hput]
 have far:∀j t,κ j=t→t≠.non→t≠tg→j≠x.a→σ2.obj j=σ.obj j∧(if j=i then tg else κ j)=t:=by
  intro j t h1 h2 h3 h4
  have h5:κ j≠.non:=by rw[h1];exact h2
  exact⟨fo j h5 h4 (hold j h5 (by rw[h1];exact h3)),by rw[hκ j h5];exact h1⟩
 have xa:∀j t,κ j=t→t≠.nd x.a→j≠x.a:=fun j t h1 h2 e=>by subst e;rw[x2]at h1;exact h2 h1.symm
 refine⟨fun j hj=>?_,by rw[hκ 0 t0];exact h.k0,by rw[hκ 1 t1];exact h.k1,?_,?_,h.sa,fun hne=>?_,fun hne=>?_,fun a g' hg'=>?_,fun y hy=>?_,?_⟩
 ·by_cases hji:j=i
  ·subst hji
   rcases hi with⟨_,_,h3⟩|⟨h3,h4⟩
   ·exact h3
   ·have:=h.lt j (by rw[h4,hitg h3];exact htn);omega
  ·have hj':κ j≠.non:=by simpa[hji]using hj
   have:=h.lt j hj';omega
 ·rw[(far 0 .rc h.k0 (by intro h;cases h) (Ne.symm tgne.1) (xa 0 _ h.k0 (by intro h;cases h))).1];exact h.r0
 ·rw[(far 1 .sc h.k1 (by intro h;cases h) (Ne.symm tgne.2.1) (xa 1 _ h.k1 (by intro h;cases h))).1];exact h.r1
 ·obtain⟨a1,a2⟩:=h.rr hne
  obtain⟨b1,b2⟩:=far _ .rr a2 (by intro h;cases h) (Ne.symm tgne.2.2.1) (xa _ _ a2 (by intro h;cases h))
  exact⟨by rw[b1];exact a1,b2⟩
 ·obtain⟨⟨rows,a1,a3,a4⟩,a2⟩:=h.sr hne
  obtain⟨b1,b2⟩:=far _ .sr a2 (by intro h;cases h) (Ne.symm tgne.2.2.2.1) (xa _ _ a2 (by intro h;cases h))
  exact⟨⟨rows,by rw[b1];exact a1,a3,a4⟩,b2⟩
 ·simp only at hg'
  by_cases hax:a=x.a
  ·subst hax
   rw[if_pos rfl,hg,Option.map_some]at hg'
   cases hg'
   have tx:κ x.a≠.non:=by rw[x2];intro h;cases h
   refine⟨f0,by rw[hκ _ tx];exact x2,fun hy=>?_,fun hy=>?_⟩
   ·cases he:x.els with
    |true=>
     simp only[he,if_true]at hy htg ⊢
     obtain⟨y1,y2⟩:=x3 hy
     obtain⟨b1,b2⟩:=far _ _ y2 (by intro h;cases h) (by rw[htg];intro h;cases h) (xa _ _ y2 (by intro h;cases h))
     exact⟨by rw[b1];exact y1,b2⟩
    |false=>
     simp only[he,Bool.false_eq_true,if_false]at fr htg ⊢
     exact⟨fr,by simp[htg]⟩
   ·cases he:x.els with
    |true=>
     simp only[he,if_true]at fr htg ⊢
     exact⟨fr,by simp[htg]⟩
    |false=>
     simp only[he,Bool.false_eq_true,if_false]at hy htg ⊢
     obtain⟨y1,y2⟩:=x4 hy
     obtain⟨b1,b2⟩:=far _ _ y2 (by intro h;cases h) (by rw[htg];intro h;cases h) (xa _ _ y2 (by intro h;cases h))
     exact⟨by rw[b1];exact y1,b2⟩
  ·rw[if_neg hax]at hg'
   obtain⟨g1,g2,g3,g4⟩:=h.nd a g' hg'
   obtain⟨b1,b2⟩:=far a _ g2 (by intro h;cases h) (Ne.symm (tgne.2.2.2.2.1 a)) hax
   refine⟨by rw[b1];exact g1,b2,fun hy=>?_,fun hy=>?_⟩
   ·obtain⟨y1,y2⟩:=g3 hy
    obtain⟨c1,c2⟩:=far _ _ y2 (by intro h;cases h) (by rw[htg];split<;>(intro h;cases h<;>exact hax rfl)) (xa _ _ y2 (by intro h;cases h))
    exact⟨by rw[c1];exact y1,c2⟩
   ·obtain⟨y1,y2⟩:=g4 hy
    obtain⟨c1,c2⟩:=far _ _ y2 (by intro h;cases h) (by rw[htg];split<;>(intro h;cases h<;>exact hax rfl)) (xa _ _ y2 (by intro h;cases h))
    exact⟨by rw[c1];exact y1,c2⟩
 ·obtain⟨a1,a2,g',a3⟩:=h.op y hy
  obtain⟨b1,b2⟩:=far _ _ a2 (by intro h;cases h) (Ne.symm (tgne.2.2.2.2.2 _)) (xa _ _ a2 (by intro h;cases h))
  refine⟨by rw[b1];exact a1,b2,?_⟩
  by_cases hya:y.a=x.a
  ·show ∃g',(if y.a=x.a then _ else _)=some g'
   rw[if_pos hya,hya,hg];exact⟨_,rfl⟩
  ·show ∃g',(if y.a=x.a then _ else _)=some g'
   rw[if_neg hya];exact⟨g',a3⟩
 ·refine⟨by simp only;omega,by simp only;omega,fun a g' hg'=>?_⟩
  simp only at hg'
  by_cases hax:a=x.a
  ·subst hax
   rw[if_pos rfl,hg,Option.map_some]at hg'
   cases hg'
   have:=hb3 _ g hg
   split<;>simp only[List.length_append,List.length_singleton]<;>omega
  ·rw[if_neg hax]at hg'
   have:=hb3 a g' hg'
   omega
set_option maxHeartbeats 4000000 in
theorem Jak {σ:St} {G:Gs} {κ:Nat→Tag} {c:Nat} (h:GRep σ G κ c) (hc:c≤2097152) (M:Nat):AFun X 82 [.ref M 0,.ref 1 0,.ref 0 0] σ fun E σ'=>E=.ret (.tup [])∧∃i hd κ',GRep σ' (G.put M i hd) κ' (c+1)∧σ.next≤σ'.next∧(∀j,κ j≠.non→κ' j=κ j):=by
 obtain⟨hb1,hb2,hb3⟩:=h.bd
 have t0:κ 0≠.non:=by rw[h.k0];intro h;cases h
 have t1:κ 1≠.non:=by rw[h.k1];intro h;cases h
 have l0:=h.lt 0 t0
 have l1:=h.lt 1 t1
 refine Jw Tryz.func82 rfl (by decide) Tryz.ntmps82 Tryz.results82 (by simp) ?_
 have ht0:decide (((0:Nat):Int)=0)=true:=rfl
 rcases hst:G.stk with _|⟨x,st⟩
 ·have r1:=h.r1
  rw[hst]at r1
  repeat' first|refine Z1 ?_|refine Z2 ?_|refine Z3 ?_|refine Z4 ?_|refine Z5 ?_|refine Z6 ?_|refine Z7 ?_|refine Z8 ?_|refine Z9 ?_|refine Za (fun hc=>?_) (fun hc=>?_)|refine Zb (fun hc=>?_) (fun hc=>?_)|refine Zd ?_|refine Ze ?_|refine Zf ?_|refine Zg ?_|refine Zh ?_|refine Zi ?_|refine Zj ?_|refine Zk ?_|refine Zl ?_|refine Zm ?_|refine Zn (fun hc=>?_) (fun hc=>?_)|refine Zo ?_|refine J6 ?_|refine Jf ?_|refine Zp ?_|refine Zq ?_|refine Zr (fun hc=>?_) (fun hc=>?_)|refine J5 ?_|refine Jh ?_|refine J8 ?_|refine Jb ?_|refine J3 ?_|refine Ja ?_|refine Zs ?_|refine Zv ?_|refine J7 ?_|refine J9 ?_|refine J4 ?_|refine Zt ?_|refine Zu ?_
  refine Yr r1 ?_
  repeat' first|refine Z1 ?_|refine Z2 ?_|refine Z3 ?_|refine Z4 ?_|refine Z5 ?_|refine Z6 ?_|refine Z7 ?_|refine Z8 ?_|refine Z9 ?_|refine Za (fun hc=>?_) (fun hc=>?_)|refine Zb (fun hc=>?_) (fun hc=>?_)|refine Yx2 (fun _=>rfl) ?_|refine Zd ?_|refine Ze ?_|refine Zf ?_|refine Zg ?_|refine Zh ?_|refine Zi ?_|refine Zj ?_|refine Zk ?_|refine Zl ?_|refine Zm ?_|refine Zn (fun hc=>?_) (fun hc=>?_)|refine Zo ?_|refine J6 ?_|refine Jf ?_|refine Zp ?_|refine Zq ?_|refine Zr (fun hc=>?_) (fun hc=>?_)|refine J5 ?_|refine Jh ?_|refine J8 ?_|refine Jb ?_|refine J3 ?_|refine Ja ?_|refine Zs ?_|refine Zv ?_|refine J7 ?_|refine J9 ?_|refine J4 ?_|refine Zt ?_|refine Zu ?_
  refine Yr h.r0 ?_
  repeat' first|refine Z1 ?_|refine Z2 ?_|refine Z3 ?_|refine Z4 ?_|refine Z5 ?_|refine Z6 ?_|refine Z7 ?_|refine Z8 ?_|refine Z9 ?_|refine Za (fun hc=>?_) (fun hc=>?_)|refine Zb (fun hc=>?_) (fun hc=>?_)|refine Yw (sz:=1) (rows:=[prf M]) ?_|refine Zd ?_|refine Ze ?_|refine Zf ?_|refine Zg ?_|refine Zh ?_|refine Zi ?_|refine Zj ?_|refine Zk ?_|refine Zl ?_|refine Zm ?_|refine Zn (fun hc=>?_) (fun hc=>?_)|refine Zo ?_|refine J6 ?_|refine Jf ?_|refine Zp ?_|refine Zq ?_|refine Zr (fun hc=>?_) (fun hc=>?_)|refine J5 ?_|refine Jh ?_|refine J8 ?_|refine Jb ?_|refine J3 ?_|refine Ja ?_|refine Zs ?_|refine Zv ?_|refine J7 ?_|refine J9 ?_|refine J4 ?_|refine Zt ?_|refine Zu ?_
  refine app1 (f:=prf) (l:=G.root) (y:=M) (h:=G.rh) (i:=G.rr) (k:=σ.next) (v:=σ.next) (fun hne=>?_) ?_ (fun _=>rfl) (fun i' σ' e1 e2 e3 e4=>?_)
  ·have:=h.lt G.rr (by rw[(h.rr hne).2];intro h;cases h)
   rw[St.obj_alloc,if_neg (by omega)]
   exact(h.rr hne).1
  ·rw[St.obj_alloc,if_pos rfl]
  have hi0:i'≠0:=by
   rw[e1]
   split
   ·simp only[St.next_alloc];omega
   ·rename_i hne
    intro e
    have:=(h.rr hne).2
    rw[e,h.k0]at this;cases this
  have f0:σ'.obj 0=some (.var [slcN G.rr G.rh G.root.length]):=by
   rw[e3 0 (Ne.symm hi0),St.obj_alloc,if_neg (by omega)];exact h.r0
  repeat' first|refine Z1 ?_|refine Z2 ?_|refine Z3 ?_|refine Z4 ?_|refine Z5 ?_|refine Z6 ?_|refine Z7 ?_|refine Z8 ?_|refine Z9 ?_|refine Za (fun hc=>?_) (fun hc=>?_)|refine Zb (fun hc=>?_) (fun hc=>?_)|refine Yt f0 ?_|refine Zd ?_|refine Ze ?_|refine Zf ?_|refine Zg ?_|refine Zh ?_|refine Zi ?_|refine Zj ?_|refine Zk ?_|refine Zl ?_|refine Zm ?_|refine Zn (fun hc=>?_) (fun hc=>?_)|refine ret0 ?_|refine Zo ?_|refine J6 ?_|refine Jf ?_|refine Zp ?_|refine Zq ?_|refine Zr (fun hc=>?_) (fun hc=>?_)|refine J5 ?_|refine Jh ?_|refine J8 ?_|refine Jb ?_|refine J3 ?_|refine Ja ?_|refine Zs ?_|refine Zv ?_|refine J7 ?_|refine J9 ?_|refine J4 ?_|refine Zt ?_|refine Zu ?_
  refine⟨rfl,i',σ.next+1,?_⟩
  obtain⟨κ',h1,h2⟩:=h.put_root (M:=M) (i:=i') (hN:=σ.next+1) (σ2:=σ'.set 0 _) hst (by simp only[St.next_set,e4,St.next_alloc];omega) (by
   rw[e1]
   by_cases hr:G.root=[]
   ·left;rw[if_pos hr];simp only[St.next_set,e4,St.next_alloc];exact⟨hr,by omega,by omega⟩
   ·right;rw[if_neg hr];exact⟨hr,rfl⟩) (by rw[St.obj_set,if_pos rfl]) (by rw[St.obj_set,if_neg hi0];exact e2) (fun j hj hj0 hji=>by
    have:=h.lt j hj
    rw[St.obj_set,if_neg hj0,e3 j hji,St.obj_alloc,if_neg (by omega)])
  exact⟨κ',h1,by simp only[St.next_set,e4,St.next_alloc];omega,h2⟩
 ·have r1:=h.r1
  have hsa:G.sa=true:=by
   cases hq:G.sa with
   |true=>rfl
   |false=>rw[h.sa hq]at hst;cases hst
  rw[hst,List.length_cons,show slcB G.sa G.sr G.sh (st.length+1)=.sl G.sr G.sh 0 (st.length+1) by rw[hsa];rfl]at r1
  have hsl:st.length+1≤c:=by rw[hst]at hb2;exact hb2
  obtain⟨rows,hsr,hsr2,hsr3⟩:=(h.sr hsa).1
  rw[hst]at hsr2 hsr3
  obtain⟨hop,hopt,g,hg⟩:=h.op x (by rw[hst];exact List.mem_cons_self)
  obtain⟨x1,x2,x3,x4⟩:=h.nd x.a g hg
  have hgb:=hb3 x.a g hg
  have hget:rows[st.length]? = some (orf x):=by
   have h1:(rows.take (x::st).length)[st.length]? = some (orf x):=by rw[hsr2];simp
   rwa [List.getElem?_take,if_pos (by simp)]at h1
  have e1:decide (((st.length+1-0:Nat):Int)=0)=false:=J1 (by omega)
  have lo:=h.lt x.o (by rw[hopt];intro h;cases h)
  have la:=h.lt x.a (by rw[x2];intro h;cases h)
  have hao:x.a≠x.o:=fun e=>by rw[e,hopt]at x2;cases x2
  have hT:∀o' j,j=x.o∨j=x.a→(σ.alloc o').obj j=σ.obj j:=fun o' j hj=>by
   rw[St.obj_alloc,if_neg (by rcases hj with rfl|rfl<;>omega)]
  cases hels:x.els with
  |true=>
   have hgn:g.no≠[]→(σ.alloc (.row σ.next 131 1 [prf M])).obj g.n=some (.row g.hn 131 1 (g.no.map prf)):=fun hne=>by
    have:=h.lt g.n (by rw[(x4 hne).2];intro h;cases h)
    rw[St.obj_alloc,if_neg (by omega)];exact(x4 hne).1
   have hin:∀j,j=x.o∨j=x.a→j≠(if g.no.isEmpty then(σ.alloc (.row σ.next 131 1 [prf M])).next else g.n):=fun j hj e=>by
    split at e
    ·simp only[St.next_alloc]at e;rcases hj with rfl|rfl<;>omega
    ·rename_i hne
     have:=(x4 (by simpa using hne)).2
     rw[←e]at this
     rcases hj with rfl|rfl
     ·rw[hopt]at this;cases this
     ·rw[x2]at this;cases this
   have hii:∀j,j=(if g.no.isEmpty then σ.next+1 else g.n)→¬j=x.a:=fun j hj e=>hin x.a (.inr rfl) (by rw[←e];exact hj)
   repeat' first|refine Z1 ?_|refine Z2 ?_|refine Z3 ?_|refine Z4 ?_|refine Z5 ?_|refine Z6 ?_|refine Z7 ?_|refine Z8 ?_|refine Z9 ?_|refine Za (fun hc=>?_) (fun hc=>?_)|refine Zb (fun hc=>?_) (fun hc=>?_)|refine Ys r1 ?_|refine Yi1 (n:=((st.length+1-0:Nat):Int)-1) (hi:=st.length+1) st.length hsr (by omega) (by omega) ?_|refine Ye1 hsr hget ?_|refine Ju ?_|refine Ys hop ?_|refine Zd ?_|refine Ze ?_|refine Zf ?_|refine Zg ?_|refine Zh ?_|refine Zi ?_|refine Zj ?_|refine Zk ?_|refine Zl ?_|refine Zm ?_|refine Zn (fun hc=>?_) (fun hc=>?_)|refine Zo ?_|refine J6 ?_|refine Jf ?_|refine Zp ?_|refine Zq ?_|refine Zr (fun hc=>?_) (fun hc=>?_)|refine J5 ?_|refine Jh ?_|refine J8 ?_|refine Jb ?_|refine J3 ?_|refine Ja ?_|refine Zs ?_|refine Zv ?_|refine J7 ?_|refine J9 ?_|refine J4 ?_|refine Zt ?_|refine Zu ?_
   refine Jv (fun j=>j=x.o∨j=x.a) [12,13,16] Jp (by decide +kernel) ?_
   repeat' first|refine Wa ?_|refine Wn ?_|refine Wl hop (.inl rfl) ?_|refine Wr x1 (.inr rfl) ?_
   refine We (Yw (sz:=1) (rows:=[prf M]) ⟨rfl,rfl⟩) (.inr (hT _)) ?_
   refine We (app1d (f:=prf) (l:=g.no) (y:=M) (h:=g.hn) (i:=g.n) (k:=σ.next) (v:=σ.next) hgn (by rw[St.obj_alloc,if_pos rfl]) (fun _=>rfl) ⟨rfl,rfl⟩) (.inr fun j hj=>J2h (hin j hj)) ?_
   repeat' first|refine Wa ?_|refine Wn ?_
   refine We (Yt (by rw[J2h (hin _ (.inr rfl)),hT _ _ (.inr rfl)];exact x1) ⟨rfl,rfl⟩) (.inl rfl) ?_
   refine Wy ?_
   refine nrm0 ?_
   refine⟨rfl,if g.no.isEmpty then σ.next+1 else g.n,σ.next+1,?_⟩
   refine Exists.imp (fun κ' (hh:_∧_)=>⟨hh.1,?_,hh.2⟩) (h.put_node (M:=M) (hN:=σ.next+1) hst hg ?_ ?_ ?_ ?_ ?_)
   ·simp only[St.next_set,J0Y,St.next_alloc];omega
   ·simp only[St.next_set,J0Y,St.next_alloc];omega
   ·simp only[hels,if_true]
    by_cases hno:g.no=[]
    ·left;simp only[hno,List.isEmpty_nil,if_true,St.next_set,J0Y,St.next_alloc];exact⟨trivial,by omega,by omega⟩
    ·right;exact⟨hno,by rw[if_neg (by simpa using hno)]⟩
   ·rw[St.obj_set,if_pos rfl]
    simp only[hels,if_true,ncell,List.length_append,List.length_singleton]
    rw[J1v (Nat.succ_ne_zero g.no.length)]
    rfl
   ·rw[St.obj_set,if_neg (hii _ rfl)]
    simp only[hels,if_true]
    exact J6c
   ·intro j hj hja hji
    have:=h.lt j hj
    rw[St.obj_set,if_neg hja,J2h hji,St.obj_alloc,if_neg (by omega)]
  |false=>
   have hgn:g.yes≠[]→(σ.alloc (.row σ.next 131 1 [prf M])).obj g.y=some (.row g.hy 131 1 (g.yes.map prf)):=fun hne=>by
    have:=h.lt g.y (by rw[(x3 hne).2];intro h;cases h)
    rw[St.obj_alloc,if_neg (by omega)];exact(x3 hne).1
   have hin:∀j,j=x.o∨j=x.a→j≠(if g.yes.isEmpty then(σ.alloc (.row σ.next 131 1 [prf M])).next else g.y):=fun j hj e=>by
    split at e
    ·simp only[St.next_alloc]at e;rcases hj with rfl|rfl<;>omega
    ·rename_i hne
     have:=(x3 (by simpa using hne)).2
     rw[←e]at this
     rcases hj with rfl|rfl
     ·rw[hopt]at this;cases this
     ·rw[x2]at this;cases this
   have hii:∀j,j=(if g.yes.isEmpty then σ.next+1 else g.y)→¬j=x.a:=fun j hj e=>hin x.a (.inr rfl) (by rw[←e];exact hj)
   repeat' first|refine Z1 ?_|refine Z2 ?_|refine Z3 ?_|refine Z4 ?_|refine Z5 ?_|refine Z6 ?_|refine Z7 ?_|refine Z8 ?_|refine Z9 ?_|refine Za (fun hc=>?_) (fun hc=>?_)|refine Zb (fun hc=>?_) (fun hc=>?_)|refine Ys r1 ?_|refine Yi1 (n:=((st.length+1-0:Nat):Int)-1) (hi:=st.length+1) st.length hsr (by omega) (by omega) ?_|refine Ye1 hsr hget ?_|refine Ju ?_|refine Ys hop ?_|refine Zd ?_|refine Ze ?_|refine Zf ?_|refine Zg ?_|refine Zh ?_|refine Zi ?_|refine Zj ?_|refine Zk ?_|refine Zl ?_|refine Zm ?_|refine Zn (fun hc=>?_) (fun hc=>?_)|refine Zo ?_|refine J6 ?_|refine Jf ?_|refine Zp ?_|refine Zq ?_|refine Zr (fun hc=>?_) (fun hc=>?_)|refine J5 ?_|refine Jh ?_|refine J8 ?_|refine Jb ?_|refine J3 ?_|refine Ja ?_|refine Zs ?_|refine Zv ?_|refine J7 ?_|refine J9 ?_|refine J4 ?_|refine Zt ?_|refine Zu ?_
   refine Jv (fun j=>j=x.o∨j=x.a) [12,13,16] Jp (by decide +kernel) ?_
   repeat' first|refine Wa ?_|refine Wn ?_|refine Wl hop (.inl rfl) ?_|refine Wr x1 (.inr rfl) ?_
   refine We (Yw (sz:=1) (rows:=[prf M]) ⟨rfl,rfl⟩) (.inr (hT _)) ?_
   refine We (app1d (f:=prf) (l:=g.yes) (y:=M) (h:=g.hy) (i:=g.y) (k:=σ.next) (v:=σ.next) hgn (by rw[St.obj_alloc,if_pos rfl]) (fun _=>rfl) ⟨rfl,rfl⟩) (.inr fun j hj=>J2h (hin j hj)) ?_
   repeat' first|refine Wa ?_|refine Wn ?_
   refine We (Yt (by rw[J2h (hin _ (.inr rfl)),hT _ _ (.inr rfl)];exact x1) ⟨rfl,rfl⟩) (.inl rfl) ?_
   refine Wy ?_
   refine nrm0 ?_
   refine⟨rfl,if g.yes.isEmpty then σ.next+1 else g.y,σ.next+1,?_⟩
   refine Exists.imp (fun κ' (hh:_∧_)=>⟨hh.1,?_,hh.2⟩) (h.put_node (M:=M) (hN:=σ.next+1) hst hg ?_ ?_ ?_ ?_ ?_)
   ·simp only[St.next_set,J0Y,St.next_alloc];omega
   ·simp only[St.next_set,J0Y,St.next_alloc];omega
   ·simp only[hels,Bool.false_eq_true,if_false]
    by_cases hno:g.yes=[]
    ·left;simp only[hno,List.isEmpty_nil,if_true,St.next_set,J0Y,St.next_alloc];exact⟨trivial,by omega,by omega⟩
    ·right;exact⟨hno,by rw[if_neg (by simpa using hno)]⟩
   ·rw[St.obj_set,if_pos rfl]
    simp only[hels,Bool.false_eq_true,if_false,ncell,List.length_append,List.length_singleton]
    rw[J1v (Nat.succ_ne_zero g.yes.length)]
    rfl
   ·rw[St.obj_set,if_neg (hii _ rfl)]
    simp only[hels,Bool.false_eq_true,if_false]
    exact J6c
   ·intro j hj hja hji
    have:=h.lt j hj
    rw[St.obj_set,if_neg hja,J2h hji,St.obj_alloc,if_neg (by omega)]
end Go.Pm
