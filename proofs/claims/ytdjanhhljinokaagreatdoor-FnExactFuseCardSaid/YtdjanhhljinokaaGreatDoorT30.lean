/- Part of the proof: Hdm. -/
import Derived.Test.YtdjanhhljinokaaGreatDoorT29
import Derived.Test.YtdjanhhljinokaaGreatDoorT10
import Derived.Test.YtdjanhhljinokaaGreatDoorT28
import Derived.Test.YtdjanhhljinokaaGreatDoorT27
import Derived.Test.YtdjanhhljinokaaGreatDoorT16
set_option linter.unusedVariables false
set_option linter.unusedSimpArgs false
namespace Go.Pm
attribute [local irreducible] AR Ok inBlock andThen endQ aoper
set_option maxHeartbeats 2000000
open Go.Proofs
theorem J0B {α:Type} {l:List α} {i:Nat} {y:α} {r:List α} (h:l.drop i=y::r):l[i]? = some y∧l.drop (i+1)=r:=by
 have h1:(l.drop i)[0]? = some y:=by rw[h];rfl
 rw[List.getElem?_drop]at h1
 refine⟨by simpa using h1,?_⟩
 have:l.drop (i+1)=(l.drop i).drop 1:=by rw[List.drop_drop]
 rw[this,h];rfl
theorem J1P (l:List (ByteArray)) (k:Int) (h1:1≤k) (h2:k+4*(wL (wStr) l:Int)≤1099511627776):PFun X 85 [.d (.im ((mkL mkStr l k).1.map eStr)),vi k] (vi (mkL mkStr l k).2):=by
 obtain⟨m,hm⟩:∃m,m=(mkL mkStr l k).1:=⟨_,rfl⟩
 have hml:m.length=l.length:=by rw[hm,J0d]
 rw[←hm]
 refine Jj Tryz.func85 rfl (by decide) Tryz.ntmps85 Tryz.results85 (by simp) rfl rfl ?_
 repeat' first|refine Z1 ?_|refine Z2 ?_|refine Zo ?_|refine J5 ?_|refine J4 ?_
 refine Jo (ι:=Nat×Int) (fun x_=>envL [(0,.d (.im (m.map eStr))),(1,vi x_.2),(5,vi x_.1)]) (fun x_=>stL []) (fun x_=>x_.1≤l.length∧1≤x_.2∧(mkL mkStr (l.drop x_.1) x_.2).2=(mkL mkStr l k).2∧m.drop x_.1=(mkL mkStr (l.drop x_.1) x_.2).1∧x_.2+4*(wL (wStr) (l.drop x_.1):Int)≤1099511627776) (fun x_=>l.length-x_.1) (0,k) (⟨Nat.zero_le _,h1,rfl,hm,h2⟩) (Jg rfl ⟨.refl _,.refl _,.refl _,trivial⟩ trivial) (fun _=>Nat.le_refl 0) ?_
 rintro⟨i,q⟩ ⟨i1,i2,i3,i4,i5⟩
 simp only at i1 i2 i3 i4 i5
 have hll:l.length≤wL (wStr) l:=Nat.le_add_right _ _
 show Ok _ _ _ _ (envL [(0,.d (.im (m.map eStr))),(1,vi q),(5,vi i)]) (stL [])
 rcases hx:l[i]? with _|x
 ·have hle:=Jk hx
  have ek:decide ((i:Int)<(m.length:Int))=false:=J1 (by omega)
  rw[Jm hx]at i3
  simp only[mkL]at i3
  repeat' first|refine Z1 ?_|refine Z2 ?_|refine Z5 ?_|refine Zd ?_|refine Zo ?_|refine J5 ?_|refine Zq ?_|refine Jf ?_|refine J9 ?_|refine J3 ?_|refine Jb ?_|refine Zv ?_|refine Zt ?_
  exact congrArg (fun v=>AEnd.ret (vi v)) i3
 ·obtain⟨hd,hlt⟩:=Jc hx
  have ek:decide ((i:Int)<(m.length:Int))=true:=J0 (by omega)
  rw[hd]at i3 i4 i5
  rw[J00]at i5
  simp only[mkL]at i3 i4
  obtain⟨hy,n4⟩:=J0B i4
  have hcx:=cntS x q
  have n3:1≤(mkStr x q).2:=by omega
  have n5:(mkStr x q).2+4*(wL (wStr) (l.drop (i+1)):Int)≤1099511627776:=by omega
  obtain⟨y,hey⟩:∃y,y=(mkStr x q).1:=⟨_,rfl⟩
  rw[←hey]at hy
  have f0:y=markT (q):=by rw[hey];rfl
  have d0:decide (y≠markT (q))=false:=J1 (fun h=>h f0)
  repeat' first|refine Z1 ?_|refine Z2 ?_|refine Z3 ?_|refine Z5 ?_|refine Zd ?_|refine Zf ?_|refine Zw ?_|refine Zx ?_|refine Zz (Zc (JX (q) (by omega) (by omega)) ⟨rfl,rfl⟩) ?_|refine Zz (Ze ⟨rfl,rfl⟩) ?_|refine Zo ?_|refine J5 ?_|refine Jd ?_|refine Jy Jr (by decide +kernel) ?_|refine Zp ?_|refine Zq ?_|refine J4 ?_|refine J7 ?_|refine J3 ?_|refine J6 ?_
  exact⟨(i+1,(mkStr x q).2),⟨hlt,n3,i3,n4,n5⟩,by(try simp only);omega,Jh (Nat.zero_le _) ⟨⟨rfl,rfl⟩,⟨rfl,rfl⟩,⟨rfl,rfl⟩,trivial⟩ trivial⟩
theorem J3x (l:List (Int)) (k:Int) (h1:1≤k) (h2:k+4*(wL (wNum0) l:Int)≤1099511627776):PFun X 16 [.d (.im ((mkL mkNum l k).1.map eNum)),vi k] (vi (mkL mkNum l k).2):=by
 obtain⟨m,hm⟩:∃m,m=(mkL mkNum l k).1:=⟨_,rfl⟩
 have hml:m.length=l.length:=by rw[hm,J0d]
 rw[←hm]
 refine Jj Tryz.func16 rfl (by decide) Tryz.ntmps16 Tryz.results16 (by simp) rfl rfl ?_
 repeat' first|refine Z1 ?_|refine Z2 ?_|refine Zo ?_|refine J5 ?_|refine J4 ?_
 refine Jo (ι:=Nat×Int) (fun x_=>envL [(0,.d (.im (m.map eNum))),(1,vi x_.2),(5,vi x_.1)]) (fun x_=>stL []) (fun x_=>x_.1≤l.length∧1≤x_.2∧(mkL mkNum (l.drop x_.1) x_.2).2=(mkL mkNum l k).2∧m.drop x_.1=(mkL mkNum (l.drop x_.1) x_.2).1∧x_.2+4*(wL (wNum0) (l.drop x_.1):Int)≤1099511627776) (fun x_=>l.length-x_.1) (0,k) (⟨Nat.zero_le _,h1,rfl,hm,h2⟩) (Jg rfl ⟨.refl _,.refl _,.refl _,trivial⟩ trivial) (fun _=>Nat.le_refl 0) ?_
 rintro⟨i,q⟩ ⟨i1,i2,i3,i4,i5⟩
 simp only at i1 i2 i3 i4 i5
 have hll:l.length≤wL (wNum0) l:=Nat.le_add_right _ _
 show Ok _ _ _ _ (envL [(0,.d (.im (m.map eNum))),(1,vi q),(5,vi i)]) (stL [])
 rcases hx:l[i]? with _|x
 ·have hle:=Jk hx
  have ek:decide ((i:Int)<(m.length:Int))=false:=J1 (by omega)
  rw[Jm hx]at i3
  simp only[mkL]at i3
  repeat' first|refine Z1 ?_|refine Z2 ?_|refine Z5 ?_|refine Zd ?_|refine Zo ?_|refine J5 ?_|refine Zq ?_|refine Jf ?_|refine J9 ?_|refine J3 ?_|refine Jb ?_|refine Zv ?_|refine Zt ?_
  exact congrArg (fun v=>AEnd.ret (vi v)) i3
 ·obtain⟨hd,hlt⟩:=Jc hx
  have ek:decide ((i:Int)<(m.length:Int))=true:=J0 (by omega)
  rw[hd]at i3 i4 i5
  rw[J00]at i5
  simp only[mkL]at i3 i4
  obtain⟨hy,n4⟩:=J0B i4
  have hcx:=cntN x q
  have n3:1≤(mkNum x q).2:=by omega
  have n5:(mkNum x q).2+4*(wL (wNum0) (l.drop (i+1)):Int)≤1099511627776:=by omega
  obtain⟨y,hey⟩:∃y,y=(mkNum x q).1:=⟨_,rfl⟩
  rw[←hey]at hy
  have f0:y=q:=by rw[hey];rfl
  have d0:decide (y≠q)=false:=J1 (fun h=>h f0)
  repeat' first|refine Z1 ?_|refine Z2 ?_|refine Z3 ?_|refine Z5 ?_|refine Zd ?_|refine Ze ?_|refine Zf ?_|refine Zo ?_|refine J5 ?_|refine Jd ?_|refine Zp ?_|refine Zq ?_|refine J4 ?_|refine J7 ?_|refine J3 ?_|refine J6 ?_
  exact⟨(i+1,(mkNum x q).2),⟨hlt,n3,i3,n4,n5⟩,by(try simp only);omega,Jh (Nat.zero_le _) ⟨⟨rfl,rfl⟩,⟨rfl,rfl⟩,⟨rfl,rfl⟩,trivial⟩ trivial⟩
theorem J2S (l:List (Itm)) (k:Int) (h1:1≤k) (h2:k+4*(wL (wItm) l:Int)≤1099511627776):PFun X 134 [.d (.im ((mkL mkItm l k).1.map eItm)),vi k] (vi (mkL mkItm l k).2):=by
 obtain⟨m,hm⟩:∃m,m=(mkL mkItm l k).1:=⟨_,rfl⟩
 have hml:m.length=l.length:=by rw[hm,J0d]
 rw[←hm]
 refine Jj Tryz.func134 rfl (by decide) Tryz.ntmps134 Tryz.results134 (by simp) rfl rfl ?_
 repeat' first|refine Z1 ?_|refine Z2 ?_|refine Zo ?_|refine J5 ?_|refine J4 ?_
 refine Jo (ι:=Nat×Int) (fun x_=>envL [(0,.d (.im (m.map eItm))),(1,vi x_.2),(5,vi x_.1)]) (fun x_=>stL []) (fun x_=>x_.1≤l.length∧1≤x_.2∧(mkL mkItm (l.drop x_.1) x_.2).2=(mkL mkItm l k).2∧m.drop x_.1=(mkL mkItm (l.drop x_.1) x_.2).1∧x_.2+4*(wL (wItm) (l.drop x_.1):Int)≤1099511627776) (fun x_=>l.length-x_.1) (0,k) (⟨Nat.zero_le _,h1,rfl,hm,h2⟩) (Jg rfl ⟨.refl _,.refl _,.refl _,trivial⟩ trivial) (fun _=>Nat.le_refl 0) ?_
 rintro⟨i,q⟩ ⟨i1,i2,i3,i4,i5⟩
 simp only at i1 i2 i3 i4 i5
 have hll:l.length≤wL (wItm) l:=Nat.le_add_right _ _
 show Ok _ _ _ _ (envL [(0,.d (.im (m.map eItm))),(1,vi q),(5,vi i)]) (stL [])
 rcases hx:l[i]? with _|x
 ·have hle:=Jk hx
  have ek:decide ((i:Int)<(m.length:Int))=false:=J1 (by omega)
  rw[Jm hx]at i3
  simp only[mkL]at i3
  repeat' first|refine Z1 ?_|refine Z2 ?_|refine Z5 ?_|refine Zd ?_|refine Zo ?_|refine J5 ?_|refine Zq ?_|refine Jf ?_|refine J9 ?_|refine J3 ?_|refine Jb ?_|refine Zv ?_|refine Zt ?_
  exact congrArg (fun v=>AEnd.ret (vi v)) i3
 ·obtain⟨hd,hlt⟩:=Jc hx
  have ek:decide ((i:Int)<(m.length:Int))=true:=J0 (by omega)
  rw[hd]at i3 i4 i5
  rw[J00]at i5
  simp only[mkL]at i3 i4
  obtain⟨hy,n4⟩:=J0B i4
  have hcx:=cntI x q
  have n3:1≤(mkItm x q).2:=by omega
  have n5:(mkItm x q).2+4*(wL (wItm) (l.drop (i+1)):Int)≤1099511627776:=by omega
  obtain⟨y,hey⟩:∃y,y=(mkItm x q).1:=⟨_,rfl⟩
  rw[←hey]at hy
  have f0:y.op=q:=by rw[hey];rfl
  have d0:decide (y.op≠q)=false:=J1 (fun h=>h f0)
  have f1:y.val=q+1:=by rw[hey];rfl
  have d1:decide (y.val≠q+1)=false:=J1 (fun h=>h f1)
  have f2:y.name=markT (q+1+1):=by rw[hey];rfl
  have d2:decide (y.name≠markT (q+1+1))=false:=J1 (fun h=>h f2)
  repeat' first|refine Z1 ?_|refine Z2 ?_|refine Z3 ?_|refine Z5 ?_|refine Zd ?_|refine Ze ?_|refine Zf ?_|refine Zw ?_|refine Zx ?_|refine Zz (Zc (JX (q+1+1) (by omega) (by omega)) ⟨rfl,rfl⟩) ?_|refine Zz (Ze ⟨rfl,rfl⟩) ?_|refine Zo ?_|refine J5 ?_|refine Jd ?_|refine Jy Jr (by decide +kernel) ?_|refine Zp ?_|refine Zq ?_|refine J4 ?_|refine J7 ?_|refine J3 ?_|refine J6 ?_
  exact⟨(i+1,(mkItm x q).2),⟨hlt,n3,i3,n4,n5⟩,by(try simp only);omega,Jh (Nat.zero_le _) ⟨⟨rfl,rfl⟩,⟨rfl,rfl⟩,⟨rfl,rfl⟩,trivial⟩ trivial⟩
theorem J2D (l:List (Slt)) (k:Int) (h1:1≤k) (h2:k+4*(wL (wSlt) l:Int)≤1099511627776):PFun X 84 [.d (.im ((mkL mkSlt l k).1.map eSlt)),vi k] (vi (mkL mkSlt l k).2):=by
 obtain⟨m,hm⟩:∃m,m=(mkL mkSlt l k).1:=⟨_,rfl⟩
 have hml:m.length=l.length:=by rw[hm,J0d]
 rw[←hm]
 refine Jj Tryz.func84 rfl (by decide) Tryz.ntmps84 Tryz.results84 (by simp) rfl rfl ?_
 repeat' first|refine Z1 ?_|refine Z2 ?_|refine Zo ?_|refine J5 ?_|refine J4 ?_
 refine Jo (ι:=Nat×Int) (fun x_=>envL [(0,.d (.im (m.map eSlt))),(1,vi x_.2),(5,vi x_.1)]) (fun x_=>stL []) (fun x_=>x_.1≤l.length∧1≤x_.2∧(mkL mkSlt (l.drop x_.1) x_.2).2=(mkL mkSlt l k).2∧m.drop x_.1=(mkL mkSlt (l.drop x_.1) x_.2).1∧x_.2+4*(wL (wSlt) (l.drop x_.1):Int)≤1099511627776) (fun x_=>l.length-x_.1) (0,k) (⟨Nat.zero_le _,h1,rfl,hm,h2⟩) (Jg rfl ⟨.refl _,.refl _,.refl _,trivial⟩ trivial) (fun _=>Nat.le_refl 0) ?_
 rintro⟨i,q⟩ ⟨i1,i2,i3,i4,i5⟩
 simp only at i1 i2 i3 i4 i5
 have hll:l.length≤wL (wSlt) l:=Nat.le_add_right _ _
 show Ok _ _ _ _ (envL [(0,.d (.im (m.map eSlt))),(1,vi q),(5,vi i)]) (stL [])
 rcases hx:l[i]? with _|x
 ·have hle:=Jk hx
  have ek:decide ((i:Int)<(m.length:Int))=false:=J1 (by omega)
  rw[Jm hx]at i3
  simp only[mkL]at i3
  repeat' first|refine Z1 ?_|refine Z2 ?_|refine Z5 ?_|refine Zd ?_|refine Zo ?_|refine J5 ?_|refine Zq ?_|refine Jf ?_|refine J9 ?_|refine J3 ?_|refine Jb ?_|refine Zv ?_|refine Zt ?_
  exact congrArg (fun v=>AEnd.ret (vi v)) i3
 ·obtain⟨hd,hlt⟩:=Jc hx
  have ek:decide ((i:Int)<(m.length:Int))=true:=J0 (by omega)
  rw[hd]at i3 i4 i5
  rw[J00]at i5
  simp only[mkL]at i3 i4
  obtain⟨hy,n4⟩:=J0B i4
  have hcx:=cntSl x q
  have n3:1≤(mkSlt x q).2:=by omega
  have n5:(mkSlt x q).2+4*(wL (wSlt) (l.drop (i+1)):Int)≤1099511627776:=by omega
  obtain⟨y,hey⟩:∃y,y=(mkSlt x q).1:=⟨_,rfl⟩
  rw[←hey]at hy
  have f0:y.name=markT (q):=by rw[hey];rfl
  have d0:decide (y.name≠markT (q))=false:=J1 (fun h=>h f0)
  have f1:y.type=q+1:=by rw[hey];rfl
  have d1:decide (y.type≠q+1)=false:=J1 (fun h=>h f1)
  repeat' first|refine Z1 ?_|refine Z2 ?_|refine Z3 ?_|refine Z5 ?_|refine Zd ?_|refine Ze ?_|refine Zf ?_|refine Zw ?_|refine Zx ?_|refine Zz (Zc (JX (q) (by omega) (by omega)) ⟨rfl,rfl⟩) ?_|refine Zz (Ze ⟨rfl,rfl⟩) ?_|refine Zo ?_|refine J5 ?_|refine Jd ?_|refine Jy Jr (by decide +kernel) ?_|refine Zp ?_|refine Zq ?_|refine J4 ?_|refine J7 ?_|refine J3 ?_|refine J6 ?_
  exact⟨(i+1,(mkSlt x q).2),⟨hlt,n3,i3,n4,n5⟩,by(try simp only);omega,Jh (Nat.zero_le _) ⟨⟨rfl,rfl⟩,⟨rfl,rfl⟩,⟨rfl,rfl⟩,trivial⟩ trivial⟩
theorem J4S (l:List (List Itm)) (k:Int) (h1:1≤k) (h2:k+4*(wL (wL wItm) l:Int)≤1099511627776):PFun X 135 [.d (.im ((mkL mkItms l k).1.map eItms)),vi k] (vi (mkL mkItms l k).2):=by
 obtain⟨m,hm⟩:∃m,m=(mkL mkItms l k).1:=⟨_,rfl⟩
 have hml:m.length=l.length:=by rw[hm,J0d]
 rw[←hm]
 refine Jj Tryz.func135 rfl (by decide) Tryz.ntmps135 Tryz.results135 (by simp) rfl rfl ?_
 repeat' first|refine Z1 ?_|refine Z2 ?_|refine Zo ?_|refine J5 ?_|refine J4 ?_
 refine Jo (ι:=Nat×Int) (fun x_=>envL [(0,.d (.im (m.map eItms))),(1,vi x_.2),(5,vi x_.1)]) (fun x_=>stL []) (fun x_=>x_.1≤l.length∧1≤x_.2∧(mkL mkItms (l.drop x_.1) x_.2).2=(mkL mkItms l k).2∧m.drop x_.1=(mkL mkItms (l.drop x_.1) x_.2).1∧x_.2+4*(wL (wL wItm) (l.drop x_.1):Int)≤1099511627776) (fun x_=>l.length-x_.1) (0,k) (⟨Nat.zero_le _,h1,rfl,hm,h2⟩) (Jg rfl ⟨.refl _,.refl _,.refl _,trivial⟩ trivial) (fun _=>Nat.le_refl 0) ?_
 rintro⟨i,q⟩ ⟨i1,i2,i3,i4,i5⟩
 simp only at i1 i2 i3 i4 i5
 have hll:l.length≤wL (wL wItm) l:=Nat.le_add_right _ _
 show Ok _ _ _ _ (envL [(0,.d (.im (m.map eItms))),(1,vi q),(5,vi i)]) (stL [])
 rcases hx:l[i]? with _|x
 ·have hle:=Jk hx
  have ek:decide ((i:Int)<(m.length:Int))=false:=J1 (by omega)
  rw[Jm hx]at i3
  simp only[mkL]at i3
  repeat' first|refine Z1 ?_|refine Z2 ?_|refine Z5 ?_|refine Zd ?_|refine Zo ?_|refine J5 ?_|refine Zq ?_|refine Jf ?_|refine J9 ?_|refine J3 ?_|refine Jb ?_|refine Zv ?_|refine Zt ?_
  exact congrArg (fun v=>AEnd.ret (vi v)) i3
 ·obtain⟨hd,hlt⟩:=Jc hx
  have ek:decide ((i:Int)<(m.length:Int))=true:=J0 (by omega)
  rw[hd]at i3 i4 i5
  rw[J00]at i5
  simp only[mkL]at i3 i4
  obtain⟨hy,n4⟩:=J0B i4
  have hcx:=cntIs x q
  have n3:1≤(mkItms x q).2:=by omega
  have n5:(mkItms x q).2+4*(wL (wL wItm) (l.drop (i+1)):Int)≤1099511627776:=by omega
  obtain⟨y,hey⟩:∃y,y=(mkItms x q).1:=⟨_,rfl⟩
  rw[←hey]at hy
  have f0:y=(mkL mkItm x (q)).1:=by rw[hey];rfl
  have c0:=cntL cntI x (q)
  have g0:PFun X 134 [.d (.im (y.map eItm)),vi (q)] (vi (mkL mkItm x (q)).2):=by rw[f0];exact J2S x (q) (by omega) (by omega)
  have d0:decide ((mkL mkItm x (q)).2<0)=false:=J1 (by omega)
  repeat' first|refine Z1 ?_|refine Z2 ?_|refine Z5 ?_|refine Zc (g0) ?_|refine Zd ?_|refine Ze ?_|refine Zf ?_|refine Zo ?_|refine J5 ?_|refine Jd ?_|refine Zp ?_|refine Zq ?_|refine J4 ?_|refine J7 ?_|refine J3 ?_|refine J6 ?_
  exact⟨(i+1,(mkItms x q).2),⟨hlt,n3,i3,n4,n5⟩,by(try simp only);omega,Jh (Nat.zero_le _) ⟨⟨rfl,rfl⟩,⟨rfl,rfl⟩,⟨rfl,rfl⟩,trivial⟩ trivial⟩
theorem J6Z (l:List (Sm)) (k:Int) (h1:1≤k) (h2:k+4*(wL (wSm) l:Int)≤1099511627776):PFun X 86 [.d (.im ((mkL mkSm l k).1.map eSm)),vi k] (vi (mkL mkSm l k).2):=by
 obtain⟨m,hm⟩:∃m,m=(mkL mkSm l k).1:=⟨_,rfl⟩
 have hml:m.length=l.length:=by rw[hm,J0d]
 rw[←hm]
 refine Jj Tryz.func86 rfl (by decide) Tryz.ntmps86 Tryz.results86 (by simp) rfl rfl ?_
 repeat' first|refine Z1 ?_|refine Z2 ?_|refine Zo ?_|refine J5 ?_|refine J4 ?_
 refine Jo (ι:=Nat×Int) (fun x_=>envL [(0,.d (.im (m.map eSm))),(1,vi x_.2),(5,vi x_.1)]) (fun x_=>stL []) (fun x_=>x_.1≤l.length∧1≤x_.2∧(mkL mkSm (l.drop x_.1) x_.2).2=(mkL mkSm l k).2∧m.drop x_.1=(mkL mkSm (l.drop x_.1) x_.2).1∧x_.2+4*(wL (wSm) (l.drop x_.1):Int)≤1099511627776) (fun x_=>l.length-x_.1) (0,k) (⟨Nat.zero_le _,h1,rfl,hm,h2⟩) (Jg rfl ⟨.refl _,.refl _,.refl _,trivial⟩ trivial) (fun _=>Nat.le_refl 0) ?_
 rintro⟨i,q⟩ ⟨i1,i2,i3,i4,i5⟩
 simp only at i1 i2 i3 i4 i5
 have hll:l.length≤wL (wSm) l:=Nat.le_add_right _ _
 show Ok _ _ _ _ (envL [(0,.d (.im (m.map eSm))),(1,vi q),(5,vi i)]) (stL [])
 rcases hx:l[i]? with _|x
 ·have hle:=Jk hx
  have ek:decide ((i:Int)<(m.length:Int))=false:=J1 (by omega)
  rw[Jm hx]at i3
  simp only[mkL]at i3
  repeat' first|refine Z1 ?_|refine Z2 ?_|refine Z5 ?_|refine Zd ?_|refine Zo ?_|refine J5 ?_|refine Zq ?_|refine Jf ?_|refine J9 ?_|refine J3 ?_|refine Jb ?_|refine Zv ?_|refine Zt ?_
  exact congrArg (fun v=>AEnd.ret (vi v)) i3
 ·obtain⟨hd,hlt⟩:=Jc hx
  have ek:decide ((i:Int)<(m.length:Int))=true:=J0 (by omega)
  rw[hd]at i3 i4 i5
  rw[J00]at i5
  simp only[mkL]at i3 i4
  obtain⟨hy,n4⟩:=J0B i4
  have hcx:=cntSm x q
  have n3:1≤(mkSm x q).2:=by omega
  have n5:(mkSm x q).2+4*(wL (wSm) (l.drop (i+1)):Int)≤1099511627776:=by omega
  obtain⟨y,hey⟩:∃y,y=(mkSm x q).1:=⟨_,rfl⟩
  rw[←hey]at hy
  simp only[wSm]at i5 hcx
  have f0:y.kind=q:=by rw[hey];rfl
  have d0:decide (y.kind≠q)=false:=J1 (fun h=>h f0)
  have f1:y.name=markT (q+1):=by rw[hey];rfl
  have d1:decide (y.name≠markT (q+1))=false:=J1 (fun h=>h f1)
  have f2:y.pos=q+1+1:=by rw[hey];rfl
  have d2:decide (y.pos≠q+1+1)=false:=J1 (fun h=>h f2)
  have f3:y.outs=(mkL mkStr x.outs (q+1+1+1)).1:=by rw[hey];rfl
  have c0:=cntL cntS x.outs (q+1+1+1)
  have g3:PFun X 85 [.d (.im (y.outs.map eStr)),vi (q+1+1+1)] (vi (mkL mkStr x.outs (q+1+1+1)).2):=by rw[f3];exact J1P x.outs (q+1+1+1) (by omega) (by omega)
  have d3:decide ((mkL mkStr x.outs (q+1+1+1)).2<0)=false:=J1 (by omega)
  have f4:y.code=(mkL mkItm x.code ((mkL mkStr x.outs (q+1+1+1)).2)).1:=by rw[hey];rfl
  have c1:=cntL cntI x.code ((mkL mkStr x.outs (q+1+1+1)).2)
  have g4:PFun X 134 [.d (.im (y.code.map eItm)),vi ((mkL mkStr x.outs (q+1+1+1)).2)] (vi (mkL mkItm x.code ((mkL mkStr x.outs (q+1+1+1)).2)).2):=by rw[f4];exact J2S x.code ((mkL mkStr x.outs (q+1+1+1)).2) (by omega) (by omega)
  have d4:decide ((mkL mkItm x.code ((mkL mkStr x.outs (q+1+1+1)).2)).2<0)=false:=J1 (by omega)
  have f5:y.args=(mkL mkItms x.args ((mkL mkItm x.code ((mkL mkStr x.outs (q+1+1+1)).2)).2)).1:=by rw[hey];rfl
  have c2:=cntL cntIs x.args ((mkL mkItm x.code ((mkL mkStr x.outs (q+1+1+1)).2)).2)
  have g5:PFun X 135 [.d (.im (y.args.map eItms)),vi ((mkL mkItm x.code ((mkL mkStr x.outs (q+1+1+1)).2)).2)] (vi (mkL mkItms x.args ((mkL mkItm x.code ((mkL mkStr x.outs (q+1+1+1)).2)).2)).2):=by rw[f5];exact J4S x.args ((mkL mkItm x.code ((mkL mkStr x.outs (q+1+1+1)).2)).2) (by omega) (by omega)
  have d5:decide ((mkL mkItms x.args ((mkL mkItm x.code ((mkL mkStr x.outs (q+1+1+1)).2)).2)).2<0)=false:=J1 (by omega)
  repeat' first|refine Z1 ?_|refine Z2 ?_|refine Z5 ?_|refine Zc (g3) ?_|refine Zc (g4) ?_|refine Zc (g5) ?_|refine Zd ?_|refine Ze ?_|refine Zf ?_|refine Zw ?_|refine Zx ?_|refine Zz (Zc (JX (q+1) (by omega) (by omega)) ⟨rfl,rfl⟩) ?_|refine Zz (Ze ⟨rfl,rfl⟩) ?_|refine Zo ?_|refine J5 ?_|refine Jd ?_|refine Jy Jr (by decide +kernel) ?_|refine Zp ?_|refine Zq ?_|refine J4 ?_|refine J7 ?_|refine J3 ?_|refine J6 ?_
  exact⟨(i+1,(mkSm x q).2),⟨hlt,n3,i3,n4,n5⟩,by(try simp only);omega,Jh (Nat.zero_le _) ⟨⟨rfl,rfl⟩,⟨rfl,rfl⟩,⟨rfl,rfl⟩,trivial⟩ trivial⟩
theorem J4R (l:List (Cls)) (k:Int) (h1:1≤k) (h2:k+4*(wL (wCls) l:Int)≤1099511627776):PFun X 44 [.d (.im ((mkL mkCls l k).1.map eCls)),vi k] (vi (mkL mkCls l k).2):=by
 obtain⟨m,hm⟩:∃m,m=(mkL mkCls l k).1:=⟨_,rfl⟩
 have hml:m.length=l.length:=by rw[hm,J0d]
 rw[←hm]
 refine Jj Tryz.func44 rfl (by decide) Tryz.ntmps44 Tryz.results44 (by simp) rfl rfl ?_
 repeat' first|refine Z1 ?_|refine Z2 ?_|refine Zo ?_|refine J5 ?_|refine J4 ?_
 refine Jo (ι:=Nat×Int) (fun x_=>envL [(0,.d (.im (m.map eCls))),(1,vi x_.2),(5,vi x_.1)]) (fun x_=>stL []) (fun x_=>x_.1≤l.length∧1≤x_.2∧(mkL mkCls (l.drop x_.1) x_.2).2=(mkL mkCls l k).2∧m.drop x_.1=(mkL mkCls (l.drop x_.1) x_.2).1∧x_.2+4*(wL (wCls) (l.drop x_.1):Int)≤1099511627776) (fun x_=>l.length-x_.1) (0,k) (⟨Nat.zero_le _,h1,rfl,hm,h2⟩) (Jg rfl ⟨.refl _,.refl _,.refl _,trivial⟩ trivial) (fun _=>Nat.le_refl 0) ?_
 rintro⟨i,q⟩ ⟨i1,i2,i3,i4,i5⟩
 simp only at i1 i2 i3 i4 i5
 have hll:l.length≤wL (wCls) l:=Nat.le_add_right _ _
 show Ok _ _ _ _ (envL [(0,.d (.im (m.map eCls))),(1,vi q),(5,vi i)]) (stL [])
 rcases hx:l[i]? with _|x
 ·have hle:=Jk hx
  have ek:decide ((i:Int)<(m.length:Int))=false:=J1 (by omega)
  rw[Jm hx]at i3
  simp only[mkL]at i3
  repeat' first|refine Z1 ?_|refine Z2 ?_|refine Z5 ?_|refine Zd ?_|refine Zo ?_|refine J5 ?_|refine Zq ?_|refine Jf ?_|refine J9 ?_|refine J3 ?_|refine Jb ?_|refine Zv ?_|refine Zt ?_
  exact congrArg (fun v=>AEnd.ret (vi v)) i3
 ·obtain⟨hd,hlt⟩:=Jc hx
  have ek:decide ((i:Int)<(m.length:Int))=true:=J0 (by omega)
  rw[hd]at i3 i4 i5
  rw[J00]at i5
  simp only[mkL]at i3 i4
  obtain⟨hy,n4⟩:=J0B i4
  have hcx:=cntCl x q
  have n3:1≤(mkCls x q).2:=by omega
  have n5:(mkCls x q).2+4*(wL (wCls) (l.drop (i+1)):Int)≤1099511627776:=by omega
  obtain⟨y,hey⟩:∃y,y=(mkCls x q).1:=⟨_,rfl⟩
  rw[←hey]at hy
  simp only[wCls]at i5 hcx
  have f0:y.name=markT (q):=by rw[hey];rfl
  have d0:decide (y.name≠markT (q))=false:=J1 (fun h=>h f0)
  have f1:y.ins=(mkL mkSlt x.ins (q+1)).1:=by rw[hey];rfl
  have c0:=cntL cntSl x.ins (q+1)
  have g1:PFun X 84 [.d (.im (y.ins.map eSlt)),vi (q+1)] (vi (mkL mkSlt x.ins (q+1)).2):=by rw[f1];exact J2D x.ins (q+1) (by omega) (by omega)
  have d1:decide ((mkL mkSlt x.ins (q+1)).2<0)=false:=J1 (by omega)
  have f2:y.outs=(mkL mkSlt x.outs ((mkL mkSlt x.ins (q+1)).2)).1:=by rw[hey];rfl
  have c1:=cntL cntSl x.outs ((mkL mkSlt x.ins (q+1)).2)
  have g2:PFun X 84 [.d (.im (y.outs.map eSlt)),vi ((mkL mkSlt x.ins (q+1)).2)] (vi (mkL mkSlt x.outs ((mkL mkSlt x.ins (q+1)).2)).2):=by rw[f2];exact J2D x.outs ((mkL mkSlt x.ins (q+1)).2) (by omega) (by omega)
  have d2:decide ((mkL mkSlt x.outs ((mkL mkSlt x.ins (q+1)).2)).2<0)=false:=J1 (by omega)
  have f3:y.locs=(mkL mkStr x.locs ((mkL mkSlt x.outs ((mkL mkSlt x.ins (q+1)).2)).2)).1:=by rw[hey];rfl
  have c2:=cntL cntS x.locs ((mkL mkSlt x.outs ((mkL mkSlt x.ins (q+1)).2)).2)
  have g3:PFun X 85 [.d (.im (y.locs.map eStr)),vi ((mkL mkSlt x.outs ((mkL mkSlt x.ins (q+1)).2)).2)] (vi (mkL mkStr x.locs ((mkL mkSlt x.outs ((mkL mkSlt x.ins (q+1)).2)).2)).2):=by rw[f3];exact J1P x.locs ((mkL mkSlt x.outs ((mkL mkSlt x.ins (q+1)).2)).2) (by omega) (by omega)
  have d3:decide ((mkL mkStr x.locs ((mkL mkSlt x.outs ((mkL mkSlt x.ins (q+1)).2)).2)).2<0)=false:=J1 (by omega)
  have f4:y.mems=(mkL mkNum x.mems ((mkL mkStr x.locs ((mkL mkSlt x.outs ((mkL mkSlt x.ins (q+1)).2)).2)).2)).1:=by rw[hey];rfl
  have c3:=cntL cntN x.mems ((mkL mkStr x.locs ((mkL mkSlt x.outs ((mkL mkSlt x.ins (q+1)).2)).2)).2)
  have g4:PFun X 16 [.d (.im (y.mems.map eNum)),vi ((mkL mkStr x.locs ((mkL mkSlt x.outs ((mkL mkSlt x.ins (q+1)).2)).2)).2)] (vi (mkL mkNum x.mems ((mkL mkStr x.locs ((mkL mkSlt x.outs ((mkL mkSlt x.ins (q+1)).2)).2)).2)).2):=by rw[f4];exact J3x x.mems ((mkL mkStr x.locs ((mkL mkSlt x.outs ((mkL mkSlt x.ins (q+1)).2)).2)).2) (by omega) (by omega)
  have d4:decide ((mkL mkNum x.mems ((mkL mkStr x.locs ((mkL mkSlt x.outs ((mkL mkSlt x.ins (q+1)).2)).2)).2)).2<0)=false:=J1 (by omega)
  have f5:y.insts=(mkL mkNum x.insts ((mkL mkNum x.mems ((mkL mkStr x.locs ((mkL mkSlt x.outs ((mkL mkSlt x.ins (q+1)).2)).2)).2)).2)).1:=by rw[hey];rfl
  have c4:=cntL cntN x.insts ((mkL mkNum x.mems ((mkL mkStr x.locs ((mkL mkSlt x.outs ((mkL mkSlt x.ins (q+1)).2)).2)).2)).2)
  have g5:PFun X 16 [.d (.im (y.insts.map eNum)),vi ((mkL mkNum x.mems ((mkL mkStr x.locs ((mkL mkSlt x.outs ((mkL mkSlt x.ins (q+1)).2)).2)).2)).2)] (vi (mkL mkNum x.insts ((mkL mkNum x.mems ((mkL mkStr x.locs ((mkL mkSlt x.outs ((mkL mkSlt x.ins (q+1)).2)).2)).2)).2)).2):=by rw[f5];exact J3x x.insts ((mkL mkNum x.mems ((mkL mkStr x.locs ((mkL mkSlt x.outs ((mkL mkSlt x.ins (q+1)).2)).2)).2)).2) (by omega) (by omega)
  have d5:decide ((mkL mkNum x.insts ((mkL mkNum x.mems ((mkL mkStr x.locs ((mkL mkSlt x.outs ((mkL mkSlt x.ins (q+1)).2)).2)).2)).2)).2<0)=false:=J1 (by omega)
  have f6:y.body=(mkL mkSm x.body ((mkL mkNum x.insts ((mkL mkNum x.mems ((mkL mkStr x.locs ((mkL mkSlt x.outs ((mkL mkSlt x.ins (q+1)).2)).2)).2)).2)).2)).1:=by rw[hey];rfl
  have c5:=cntL cntSm x.body ((mkL mkNum x.insts ((mkL mkNum x.mems ((mkL mkStr x.locs ((mkL mkSlt x.outs ((mkL mkSlt x.ins (q+1)).2)).2)).2)).2)).2)
  have g6:PFun X 86 [.d (.im (y.body.map eSm)),vi ((mkL mkNum x.insts ((mkL mkNum x.mems ((mkL mkStr x.locs ((mkL mkSlt x.outs ((mkL mkSlt x.ins (q+1)).2)).2)).2)).2)).2)] (vi (mkL mkSm x.body ((mkL mkNum x.insts ((mkL mkNum x.mems ((mkL mkStr x.locs ((mkL mkSlt x.outs ((mkL mkSlt x.ins (q+1)).2)).2)).2)).2)).2)).2):=by rw[f6];exact J6Z x.body ((mkL mkNum x.insts ((mkL mkNum x.mems ((mkL mkStr x.locs ((mkL mkSlt x.outs ((mkL mkSlt x.ins (q+1)).2)).2)).2)).2)).2) (by omega) (by omega)
  have d6:decide ((mkL mkSm x.body ((mkL mkNum x.insts ((mkL mkNum x.mems ((mkL mkStr x.locs ((mkL mkSlt x.outs ((mkL mkSlt x.ins (q+1)).2)).2)).2)).2)).2)).2<0)=false:=J1 (by omega)
  repeat' first|refine Z1 ?_|refine Z2 ?_|refine Z5 ?_|refine Zc (g1) ?_|refine Zc (g2) ?_|refine Zc (g3) ?_|refine Zc (g4) ?_|refine Zc (g5) ?_|refine Zc (g6) ?_|refine Zd ?_|refine Ze ?_|refine Zf ?_|refine Zw ?_|refine Zx ?_|refine Zz (Zc (JX (q) (by omega) (by omega)) ⟨rfl,rfl⟩) ?_|refine Zz (Ze ⟨rfl,rfl⟩) ?_|refine Zo ?_|refine J5 ?_|refine Jd ?_|refine Jy Jr (by decide +kernel) ?_|refine Zp ?_|refine Zq ?_|refine J4 ?_|refine J7 ?_|refine J3 ?_|refine J6 ?_
  exact⟨(i+1,(mkCls x q).2),⟨hlt,n3,i3,n4,n5⟩,by(try simp only);omega,Jh (Nat.zero_le _) ⟨⟨rfl,rfl⟩,⟨rfl,rfl⟩,⟨rfl,rfl⟩,trivial⟩ trivial⟩
theorem J4x (l:List Cls) (k:Int) (h1:1≤k) (h2:k+4*(wL wCls l:Int)≤1099511627776):PFun X 19 [.agg [.d (.im ((mkL mkCls l k).1.map eCls))],vi k] (vi (mkL mkCls l k).2):=by
 have c0:=cntL cntCl l k
 have d0:decide ((mkL mkCls l k).2<0)=false:=J1 (by omega)
 refine Jj Tryz.func19 rfl (by decide) Tryz.ntmps19 Tryz.results19 (by simp) rfl rfl ?_
 repeat' first|refine Z1 ?_|refine Z2 ?_|refine Z5 ?_|refine Zc (J4R l k h1 h2) ?_|refine Zo ?_|refine J5 ?_|refine Zq ?_|refine J7 ?_|refine J9 ?_|refine J3 ?_|refine Zt ?_
 rfl
end Go.Pm
/- Part of the proof: Fub. -/
namespace Go.Pm
attribute [local irreducible] AR Ok inBlock andThen endQ aoper
set_option maxHeartbeats 4000000
open Go.Proofs
abbrev cM (l:List Cls) (u:Value):Sh×D×Value:=(.im 53 shCls,.im (l.map eCls),u)
theorem J8Y (cs:List Cls) (hd:dL dCls cs):PFun X 4 [.agg [.d (.im (cs.map eCls))]] (vb true):=by
 have ht:(!true)=false:=rfl
 refine Jj Tryz.func4 rfl (by decide) Tryz.ntmps4 Tryz.results4 (by simp) rfl rfl ?_
 by_cases hn:subI 1048576 (wL wCls cs)<0
 ·have e1:decide (subI 1048576 (wL wCls cs)<0)=true:=J0 hn
  repeat' first|refine Z1 ?_|refine Z2 ?_|refine Z5 ?_|refine Zc (J36 cs 1048576 (by omega) (by omega) hd) ?_|refine Zo ?_|refine J5 ?_|refine Zp ?_|refine J9 ?_|refine J8 ?_|refine Zt ?_
  rfl
 have e1:decide (subI 1048576 (wL wCls cs)<0)=false:=J1 hn
 obtain⟨h1,h2⟩:=J02 hn (by omega)
 have hw:wL wCls cs≤1048576:=by omega
 have hw2:=wfuse cs hw
 have hs:=J91 cs hw hw2
 have hi:=@Jax cs hw FH.non [] .nil
 generalize fuseC cs=R at hw2 hs hi
 have hz {σ:St} {i:Nat} {τ:FH} {l:List (Sh×D×Value)} {x:AV} (ha:LnL σ [.agg [x]] [.agg [.d (.im (cs.map eCls))]]) (hb:σ.obj i=some (.box τ)) (hT:Tr τ l):=BFun.lend hi (fun r L'=>∃a n c,r=.agg [.d (.s (.slice a n c))]∧L'=[cM R (.slice a n c)]) (fun E τ' ⟨a,n,c,e,t⟩=>⟨_,_,e,JaE ⟨.d _,trivial⟩,t,a,n,c,rfl,rfl⟩) ha hb hT
 have cM1:=cntL cntCl cs 1
 have cN1:=cntL cntCl R 1
 have d1:decide ((mkL mkCls cs 1).2<0)=false:=J1 (by omega)
 have d2:decide ((mkL mkCls R 1).2<0)=false:=J1 (by omega)
 have d3:decide ((mkL mkCls R 1).2≠(mkL mkCls R 1).2)=false:=J1 (fun h=>h rfl)
 repeat' first|refine Z1 ?_|refine Z2 ?_|refine Z5 ?_|refine Zc (J36 cs 1048576 (by omega) (by omega) hd) ?_|refine Zo ?_|refine J5 ?_|refine Zq ?_|refine J7 ?_|refine J3 ?_
 refine Zc (J1E cs hw) ?_
 repeat' first|refine Z1 ?_|refine Z2 ?_|refine Z5 ?_|refine Zc (hs) ?_|refine Zo ?_
 refine Yxx ((J4T cs hw (τ:=FH.non) Tr.nil).new _) ?_
 rintro A σ2 ⟨τ1,⟨u,rfl,t1⟩,rfl⟩
 obtain⟨ua,un,uc,rfl⟩:=t1.sl
 refine⟨_,rfl,?_⟩
 repeat' first|refine Z1 ?_|refine Z2 ?_|refine Z5 ?_|refine Yxx (hz (i:=2) ⟨J2Z (.box (i:=2) rfl t1 (List.mem_cons_self ..)),trivial⟩ rfl t1) ?_|refine Zo ?_
 rintro A σ2 ⟨r,L',τ2,rfl,⟨va,vn,vc,rfl,rfl⟩,rfl,t2⟩
 refine⟨_,rfl,?_⟩
 have eqM {σ:St} {τ:FH} {L:List (Sh×D×Value)} (l:List Cls) (hl:wL wCls l≤1048576) (h:σ.obj 2=some (.box τ)) (t:Tr τ L) {x:Value} (m:cM l x∈L):=(J6j l hl).lendB (σ:=σ) (args:=[.agg [.d (.s x)],.agg [.d (.im (l.map eCls))]]) ⟨J2Z (.box h t m),J2Z (Jba _ _),trivial⟩
 have p2:Tr τ2 (cM cs (.slice ua un uc)::cM R (.slice va vn vc)::[]):=t2.perm (List.Perm.swap _ _ _)
 repeat' first|refine Z1 ?_|refine Z2 ?_|refine Z5 ?_|refine Ym (eqM R hw2 rfl p2 (x:=.slice va vn vc) (by simp)) ?_|refine Yxx ((J1U cs 1 (by decide) (by omega) p2).at (i:=2) rfl) ?_|refine Zw ?_|refine Zx ?_|refine Zz (Zc (J1E cs hw) ⟨rfl,rfl⟩) ?_|refine Zz (Ym (eqM cs hw rfl p2 (x:=.slice ua un uc) (by simp)) ⟨rfl,rfl⟩) ?_|refine Zo ?_|refine J5 ?_|refine Jy Jr (by decide +kernel) ?_|refine Zq ?_|refine J7 ?_|refine J3 ?_
 rintro A σ2 ⟨τ3,⟨rfl,t3⟩,rfl⟩
 refine⟨_,rfl,?_⟩
 have p3:Tr τ3 (cM R (.slice va vn vc)::cM (mkL mkCls cs 1).1 (.slice ua un uc)::[]):=t3.perm (List.Perm.swap _ _ _)
 repeat' first|refine Z1 ?_|refine Z2 ?_|refine Z5 ?_|refine Z7 ?_|refine Ym (eqM R hw2 rfl p3 (x:=.slice va vn vc) (by simp)) ?_|refine Yxx ((J1U R 1 (by decide) (by omega) p3).at (i:=2) rfl) ?_|refine Zi ?_|refine Zm ?_|refine Zo ?_|refine J5 ?_|refine Zq ?_|refine J7 ?_|refine J3 ?_
 rintro A σ2 ⟨τ4,⟨rfl,t4⟩,rfl⟩
 refine⟨_,rfl,?_⟩
 have hold {σ:St} {τ:FH} {L:List (Sh×D×Value)} (h:σ.obj 2=some (.box τ)) (t:Tr τ L) {x:Value} (m:cM (mkL mkCls R 1).1 x∈L):=(J4x R 1 (by decide) (by omega)).lendB (σ:=σ) (args:=[.agg [.d (.s x)],vi 1]) ⟨J2Z (.box h t m),Jba _ _,trivial⟩
 repeat' first|refine Z1 ?_|refine Z2 ?_|refine Z5 ?_|refine Zc (J1E cs hw) ?_|refine Ym (hold rfl t4 (x:=.slice va vn vc) (by simp)) ?_|refine Yxx (hz (i:=2) ⟨J2Z (Jba _ _),trivial⟩ rfl t4) ?_|refine Zo ?_|refine J5 ?_|refine Zq ?_|refine J7 ?_|refine J3 ?_
 rintro A σ2 ⟨r,L',τ5,rfl,⟨xa,xn,xc,rfl,rfl⟩,rfl,t5⟩
 refine⟨_,rfl,?_⟩
 repeat' first|refine Z1 ?_|refine Z2 ?_|refine Z5 ?_|refine Ym (eqM R hw2 rfl t5 (x:=.slice xa xn xc) (by simp)) ?_|refine Ym (hold rfl t5 (x:=.slice va vn vc) (by simp)) ?_|refine Zo ?_|refine J5 ?_|refine Zq ?_|refine J7 ?_|refine J9 ?_|refine J3 ?_|refine Zt ?_
 rfl
end Go.Pm
