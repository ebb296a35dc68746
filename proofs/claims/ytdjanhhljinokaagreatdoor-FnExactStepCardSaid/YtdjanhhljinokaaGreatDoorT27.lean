/- Part of the proof: Mkm. -/
import Derived.Test.YtdjanhhljinokaaGreatDoorT26
import Derived.Test.YtdjanhhljinokaaGreatDoorT21
import Derived.Test.YtdjanhhljinokaaGreatDoorT25
set_option linter.unusedVariables false
set_option linter.unusedSimpArgs false
namespace Go.Pm
attribute [local irreducible] AR Ok inBlock andThen endQ aoper
set_option maxHeartbeats 2000000
open Go.Proofs
theorem J1Q (l:List (ByteArray)) (k:Int) (h1:1≤k) (h2:k+4*(wL (wStr) l:Int)≤1099511627776) {u:Value} {τ:FH} {L:List (Sh×D×Value)} (hT:Tr τ ((.im 9 shStr,.im (l.map eStr),u)::L)):
  BFun X 76 [.d (.s u),vi k] τ fun A τ'=>A=.ret (vi (mkL mkStr l k).2)∧Tr τ' ((.im 9 shStr,.im ((mkL mkStr l k).1.map eStr),u)::L):=by
 refine BFun.open hT rfl rfl ⟨_,Tryz.func76,by decide,rfl⟩ (by rw[List.length_map,List.length_map,J0W]) ?_
 intro V0 τ0 ha hT0
 rw[List.length_map]
 refine Jw Tryz.func76 rfl (by decide) Tryz.ntmps76 Tryz.results76 (by simp) ?_
 repeat' first|refine Z1 ?_|refine Z2 ?_|refine Zo ?_|refine J6 ?_|refine J5 ?_
 refine Jq (ι:=Nat×List (ByteArray)×Int×List (List Value)×FH) (fun x_=>envL [(0,.sl 1 1 0 l.length),(1,vi x_.2.2.1),(5,vi x_.1)]) (fun x_=>stL [some (.box x_.2.2.2.2),some (.row 1 9 1 (exR x_.2.2.2.1))]) (fun x_=>x_.1≤l.length∧x_.2.1.length=x_.1∧1≤x_.2.2.1∧(mkL mkStr (l.drop x_.1) x_.2.2.1).2=(mkL mkStr l k).2∧x_.2.1++(mkL mkStr (l.drop x_.1) x_.2.2.1).1=(mkL mkStr l k).1∧agrs shStr ((x_.2.1++l.drop x_.1).map eStr) x_.2.2.2.1∧Tr x_.2.2.2.2 (subss shStr ((x_.2.1++l.drop x_.1).map eStr) x_.2.2.2.1++L)∧x_.2.2.1+4*(wL (wStr) (l.drop x_.1):Int)≤1099511627776) (fun x_=>l.length-x_.1) (0,[],k,V0,τ0) (⟨Nat.zero_le _,rfl,h1,rfl,rfl,ha,hT0,h2⟩) (Jj rfl ⟨.refl _,.refl _,.refl _,trivial⟩ ⟨⟨rfl,_,rfl,rfl⟩,⟨rfl,_,rfl,rfl,rfl,rfl,rfl⟩,trivial⟩) (fun _=>Nat.le_refl 2) ?_
 rintro⟨i,d,q,V,τ1⟩ ⟨i1,i2,i3,i4,i5,i6,i7,i8⟩
 simp only at i1 i2 i3 i4 i5 i6 i7 i8
 have hll:l.length≤wL (wStr) l:=Nat.le_add_right _ _
 show Ok _ _ _ _ (envL [(0,.sl 1 1 0 l.length),(1,vi q),(5,vi i)]) (stL [some (.box τ1),some (.row 1 9 1 (exR V))])
 rcases hx:l[i]? with _|x
 ·have hle:=Jo hx
  have ek:decide ((i:Int)<((l.length-0:Nat):Int))=false:=J1 (by omega)
  rw[Jr hx]at i4 i5 i6 i7
  simp only[mkL,List.append_nil]at i4 i5 i6 i7
  subst i5
  repeat' first|refine Z1 ?_|refine Z2 ?_|refine Zo ?_|refine J6 ?_|refine Zq ?_|refine Jh ?_|refine Jb ?_|refine J3 ?_|refine Ja ?_|refine Zv ?_|refine Zt ?_
  exact⟨V,τ1,congrArg (fun v=>AEnd.ret (vi v)) i4,rfl,rfl,i6,i7⟩
 ·obtain⟨hd,hlt⟩:=Ji hx
  have ek:decide ((i:Int)<((l.length-0:Nat):Int))=true:=J0 (by omega)
  rw[hd]at i4 i5 i6 i7 i8
  rw[J0w]at i8
  simp only[mkL]at i4 i5
  rw[List.map_append]at i6 i7
  obtain⟨A,r,B,rfl,hA,a1,a2,a3⟩:=J0K (A:=d.map eStr) (B:=(l.drop (i+1)).map eStr) (x:=eStr x) i6
  have hA':A.length=i:=by rw[List.length_map]at hA;omega
  have hcx:=cntS x q
  have n3:1≤(mkStr x q).2:=by omega
  have n8:(mkStr x q).2+4*(wL (wStr) (l.drop (i+1)):Int)≤1099511627776:=by omega
  have n5:(d++[(mkStr x q).1])++(mkL mkStr (l.drop (i+1)) (mkStr x q).2).1=(mkL mkStr l k).1:=by rw[List.append_assoc];exact i5
  obtain⟨r0,rfl⟩:=len1 (J0l a2).2
  have n6:agrs shStr (((d++[(mkStr x q).1])++l.drop (i+1)).map eStr) (A++[.string (markT (q))]::B):=by
   rw[List.append_assoc,List.map_append]
   exact J0e a1 ⟨by simp[agr,eStr,mkStr],a3⟩
  have n7:Tr τ1 (subss shStr (((d++[(mkStr x q).1])++l.drop (i+1)).map eStr) (A++[.string (markT (q))]::B)++L):=by
   rw[J07 J3R]at i7 ⊢;exact i7
  repeat' first|refine Z1 ?_|refine Z2 ?_|refine Z3 ?_|refine Z5 ?_|refine Jy rfl rfl hlt rfl rfl rfl rfl ?_|refine Zc (J0N (q) (by omega) (by omega)) ?_|refine J17 (A:=A) (B:=B) (r:=[r0]) (r':=[.string (markT (q))]) (c:=0) hA' rfl rfl rfl rfl rfl rfl rfl rfl ?_|refine Zf ?_|refine Zo ?_|refine J6 ?_|refine Jf ?_|refine Zp ?_|refine J5 ?_|refine J8 ?_|refine J3 ?_|refine J4 ?_
  exact⟨(i+1,d++[(mkStr x q).1],(mkStr x q).2,A++[.string (markT (q))]::B,τ1),⟨hlt,by simp[i2],n3,i4,n5,n6,n7,n8⟩,by(try simp only);omega,Jl (Nat.le_of_ble_eq_true rfl) ⟨⟨rfl,rfl⟩,⟨rfl,rfl⟩,⟨rfl,rfl⟩,trivial⟩ ⟨⟨rfl,trivial⟩,⟨rfl,Je rfl,J1j _ _⟩,trivial⟩⟩
theorem J0r (l:List (Int)) (k:Int) (h1:1≤k) (h2:k+4*(wL (wNum0) l:Int)≤1099511627776) {u:Value} {τ:FH} {L:List (Sh×D×Value)} (hT:Tr τ ((.im 3 shNum,.im (l.map eNum),u)::L)):
  BFun X 15 [.d (.s u),vi k] τ fun A τ'=>A=.ret (vi (mkL mkNum l k).2)∧Tr τ' ((.im 3 shNum,.im ((mkL mkNum l k).1.map eNum),u)::L):=by
 refine BFun.open hT rfl rfl ⟨_,Tryz.func15,by decide,rfl⟩ (by rw[List.length_map,List.length_map,J0W]) ?_
 intro V0 τ0 ha hT0
 rw[List.length_map]
 refine Jw Tryz.func15 rfl (by decide) Tryz.ntmps15 Tryz.results15 (by simp) ?_
 repeat' first|refine Z1 ?_|refine Z2 ?_|refine Zo ?_|refine J6 ?_|refine J5 ?_
 refine Jq (ι:=Nat×List (Int)×Int×List (List Value)×FH) (fun x_=>envL [(0,.sl 1 1 0 l.length),(1,vi x_.2.2.1),(5,vi x_.1)]) (fun x_=>stL [some (.box x_.2.2.2.2),some (.row 1 3 1 (exR x_.2.2.2.1))]) (fun x_=>x_.1≤l.length∧x_.2.1.length=x_.1∧1≤x_.2.2.1∧(mkL mkNum (l.drop x_.1) x_.2.2.1).2=(mkL mkNum l k).2∧x_.2.1++(mkL mkNum (l.drop x_.1) x_.2.2.1).1=(mkL mkNum l k).1∧agrs shNum ((x_.2.1++l.drop x_.1).map eNum) x_.2.2.2.1∧Tr x_.2.2.2.2 (subss shNum ((x_.2.1++l.drop x_.1).map eNum) x_.2.2.2.1++L)∧x_.2.2.1+4*(wL (wNum0) (l.drop x_.1):Int)≤1099511627776) (fun x_=>l.length-x_.1) (0,[],k,V0,τ0) (⟨Nat.zero_le _,rfl,h1,rfl,rfl,ha,hT0,h2⟩) (Jj rfl ⟨.refl _,.refl _,.refl _,trivial⟩ ⟨⟨rfl,_,rfl,rfl⟩,⟨rfl,_,rfl,rfl,rfl,rfl,rfl⟩,trivial⟩) (fun _=>Nat.le_refl 2) ?_
 rintro⟨i,d,q,V,τ1⟩ ⟨i1,i2,i3,i4,i5,i6,i7,i8⟩
 simp only at i1 i2 i3 i4 i5 i6 i7 i8
 have hll:l.length≤wL (wNum0) l:=Nat.le_add_right _ _
 show Ok _ _ _ _ (envL [(0,.sl 1 1 0 l.length),(1,vi q),(5,vi i)]) (stL [some (.box τ1),some (.row 1 3 1 (exR V))])
 rcases hx:l[i]? with _|x
 ·have hle:=Jo hx
  have ek:decide ((i:Int)<((l.length-0:Nat):Int))=false:=J1 (by omega)
  rw[Jr hx]at i4 i5 i6 i7
  simp only[mkL,List.append_nil]at i4 i5 i6 i7
  subst i5
  repeat' first|refine Z1 ?_|refine Z2 ?_|refine Zo ?_|refine J6 ?_|refine Zq ?_|refine Jh ?_|refine Jb ?_|refine J3 ?_|refine Ja ?_|refine Zv ?_|refine Zt ?_
  exact⟨V,τ1,congrArg (fun v=>AEnd.ret (vi v)) i4,rfl,rfl,i6,i7⟩
 ·obtain⟨hd,hlt⟩:=Ji hx
  have ek:decide ((i:Int)<((l.length-0:Nat):Int))=true:=J0 (by omega)
  rw[hd]at i4 i5 i6 i7 i8
  rw[J0w]at i8
  simp only[mkL]at i4 i5
  rw[List.map_append]at i6 i7
  obtain⟨A,r,B,rfl,hA,a1,a2,a3⟩:=J0K (A:=d.map eNum) (B:=(l.drop (i+1)).map eNum) (x:=eNum x) i6
  have hA':A.length=i:=by rw[List.length_map]at hA;omega
  have hcx:=cntN x q
  have n3:1≤(mkNum x q).2:=by omega
  have n8:(mkNum x q).2+4*(wL (wNum0) (l.drop (i+1)):Int)≤1099511627776:=by omega
  have n5:(d++[(mkNum x q).1])++(mkL mkNum (l.drop (i+1)) (mkNum x q).2).1=(mkL mkNum l k).1:=by rw[List.append_assoc];exact i5
  obtain⟨r0,rfl⟩:=len1 (J0l a2).2
  have n6:agrs shNum (((d++[(mkNum x q).1])++l.drop (i+1)).map eNum) (A++[.int .i64 (q)]::B):=by
   rw[List.append_assoc,List.map_append]
   exact J0e a1 ⟨by simp[agr,eNum,mkNum],a3⟩
  have n7:Tr τ1 (subss shNum (((d++[(mkNum x q).1])++l.drop (i+1)).map eNum) (A++[.int .i64 (q)]::B)++L):=by
   rw[J07 J1k]at i7 ⊢;exact i7
  repeat' first|refine Z1 ?_|refine Z2 ?_|refine Z3 ?_|refine Z5 ?_|refine Jy rfl rfl hlt rfl rfl rfl rfl ?_|refine J17 (A:=A) (B:=B) (r:=[r0]) (r':=[.int .i64 (q)]) (c:=0) hA' rfl rfl rfl rfl rfl rfl rfl rfl ?_|refine Zf ?_|refine Zo ?_|refine J6 ?_|refine Jf ?_|refine Zp ?_|refine J5 ?_|refine J8 ?_|refine J3 ?_|refine J4 ?_
  exact⟨(i+1,d++[(mkNum x q).1],(mkNum x q).2,A++[.int .i64 (q)]::B,τ1),⟨hlt,by simp[i2],n3,i4,n5,n6,n7,n8⟩,by(try simp only);omega,Jl (Nat.le_of_ble_eq_true rfl) ⟨⟨rfl,rfl⟩,⟨rfl,rfl⟩,⟨rfl,rfl⟩,trivial⟩ ⟨⟨rfl,trivial⟩,⟨rfl,Je rfl,J1j _ _⟩,trivial⟩⟩
theorem J2L (l:List (Itm)) (k:Int) (h1:1≤k) (h2:k+4*(wL (wItm) l:Int)≤1099511627776) {u:Value} {τ:FH} {L:List (Sh×D×Value)} (hT:Tr τ ((.im 156 shItm,.im (l.map eItm),u)::L)):
  BFun X 126 [.d (.s u),vi k] τ fun A τ'=>A=.ret (vi (mkL mkItm l k).2)∧Tr τ' ((.im 156 shItm,.im ((mkL mkItm l k).1.map eItm),u)::L):=by
 refine BFun.open hT rfl rfl ⟨_,Tryz.func126,by decide,rfl⟩ (by rw[List.length_map,List.length_map,J0W]) ?_
 intro V0 τ0 ha hT0
 rw[List.length_map]
 refine Jw Tryz.func126 rfl (by decide) Tryz.ntmps126 Tryz.results126 (by simp) ?_
 repeat' first|refine Z1 ?_|refine Z2 ?_|refine Zo ?_|refine J6 ?_|refine J5 ?_
 refine Jq (ι:=Nat×List (Itm)×Int×List (List Value)×FH) (fun x_=>envL [(0,.sl 1 1 0 l.length),(1,vi x_.2.2.1),(5,vi x_.1)]) (fun x_=>stL [some (.box x_.2.2.2.2),some (.row 1 156 3 (exR x_.2.2.2.1))]) (fun x_=>x_.1≤l.length∧x_.2.1.length=x_.1∧1≤x_.2.2.1∧(mkL mkItm (l.drop x_.1) x_.2.2.1).2=(mkL mkItm l k).2∧x_.2.1++(mkL mkItm (l.drop x_.1) x_.2.2.1).1=(mkL mkItm l k).1∧agrs shItm ((x_.2.1++l.drop x_.1).map eItm) x_.2.2.2.1∧Tr x_.2.2.2.2 (subss shItm ((x_.2.1++l.drop x_.1).map eItm) x_.2.2.2.1++L)∧x_.2.2.1+4*(wL (wItm) (l.drop x_.1):Int)≤1099511627776) (fun x_=>l.length-x_.1) (0,[],k,V0,τ0) (⟨Nat.zero_le _,rfl,h1,rfl,rfl,ha,hT0,h2⟩) (Jj rfl ⟨.refl _,.refl _,.refl _,trivial⟩ ⟨⟨rfl,_,rfl,rfl⟩,⟨rfl,_,rfl,rfl,rfl,rfl,rfl⟩,trivial⟩) (fun _=>Nat.le_refl 2) ?_
 rintro⟨i,d,q,V,τ1⟩ ⟨i1,i2,i3,i4,i5,i6,i7,i8⟩
 simp only at i1 i2 i3 i4 i5 i6 i7 i8
 have hll:l.length≤wL (wItm) l:=Nat.le_add_right _ _
 show Ok _ _ _ _ (envL [(0,.sl 1 1 0 l.length),(1,vi q),(5,vi i)]) (stL [some (.box τ1),some (.row 1 156 3 (exR V))])
 rcases hx:l[i]? with _|x
 ·have hle:=Jo hx
  have ek:decide ((i:Int)<((l.length-0:Nat):Int))=false:=J1 (by omega)
  rw[Jr hx]at i4 i5 i6 i7
  simp only[mkL,List.append_nil]at i4 i5 i6 i7
  subst i5
  repeat' first|refine Z1 ?_|refine Z2 ?_|refine Zo ?_|refine J6 ?_|refine Zq ?_|refine Jh ?_|refine Jb ?_|refine J3 ?_|refine Ja ?_|refine Zv ?_|refine Zt ?_
  exact⟨V,τ1,congrArg (fun v=>AEnd.ret (vi v)) i4,rfl,rfl,i6,i7⟩
 ·obtain⟨hd,hlt⟩:=Ji hx
  have ek:decide ((i:Int)<((l.length-0:Nat):Int))=true:=J0 (by omega)
  rw[hd]at i4 i5 i6 i7 i8
  rw[J0w]at i8
  simp only[mkL]at i4 i5
  rw[List.map_append]at i6 i7
  obtain⟨A,r,B,rfl,hA,a1,a2,a3⟩:=J0K (A:=d.map eItm) (B:=(l.drop (i+1)).map eItm) (x:=eItm x) i6
  have hA':A.length=i:=by rw[List.length_map]at hA;omega
  have hcx:=cntI x q
  have n3:1≤(mkItm x q).2:=by omega
  have n8:(mkItm x q).2+4*(wL (wItm) (l.drop (i+1)):Int)≤1099511627776:=by omega
  have n5:(d++[(mkItm x q).1])++(mkL mkItm (l.drop (i+1)) (mkItm x q).2).1=(mkL mkItm l k).1:=by rw[List.append_assoc];exact i5
  obtain⟨r0,r1,r2,rfl⟩:=len3 (J0l a2).2
  have n6:agrs shItm (((d++[(mkItm x q).1])++l.drop (i+1)).map eItm) (A++[.int .i64 (q),.int .i64 (q+1),.string (markT (q+1+1))]::B):=by
   rw[List.append_assoc,List.map_append]
   exact J0e a1 ⟨by simp[agr,eItm,mkItm],a3⟩
  have n7:Tr τ1 (subss shItm (((d++[(mkItm x q).1])++l.drop (i+1)).map eItm) (A++[.int .i64 (q),.int .i64 (q+1),.string (markT (q+1+1))]::B)++L):=by
   rw[J07 J3X]at i7 ⊢;exact i7
  repeat' first|refine Z1 ?_|refine Z2 ?_|refine Z3 ?_|refine Z5 ?_|refine Jy rfl rfl hlt rfl rfl rfl rfl ?_|refine Zc (J0N (q+1+1) (by omega) (by omega)) ?_|refine J17 (A:=A) (B:=B) (r:=[r0,r1,r2]) (r':=[.int .i64 (q),r1,r2]) (c:=0) hA' rfl rfl rfl rfl rfl rfl rfl rfl ?_|refine J17 (A:=A) (B:=B) (r:=[.int .i64 (q),r1,r2]) (r':=[.int .i64 (q),.int .i64 (q+1),r2]) (c:=1) hA' rfl rfl rfl rfl rfl rfl rfl rfl ?_|refine J17 (A:=A) (B:=B) (r:=[.int .i64 (q),.int .i64 (q+1),r2]) (r':=[.int .i64 (q),.int .i64 (q+1),.string (markT (q+1+1))]) (c:=2) hA' rfl rfl rfl rfl rfl rfl rfl rfl ?_|refine Zf ?_|refine Zo ?_|refine J6 ?_|refine Jf ?_|refine Zp ?_|refine J5 ?_|refine J8 ?_|refine J3 ?_|refine J4 ?_
  exact⟨(i+1,d++[(mkItm x q).1],(mkItm x q).2,A++[.int .i64 (q),.int .i64 (q+1),.string (markT (q+1+1))]::B,τ1),⟨hlt,by simp[i2],n3,i4,n5,n6,n7,n8⟩,by(try simp only);omega,Jl (Nat.le_of_ble_eq_true rfl) ⟨⟨rfl,rfl⟩,⟨rfl,rfl⟩,⟨rfl,rfl⟩,trivial⟩ ⟨⟨rfl,trivial⟩,⟨rfl,Je rfl,J1j _ _⟩,trivial⟩⟩
theorem J2X (l:List (Slt)) (k:Int) (h1:1≤k) (h2:k+4*(wL (wSlt) l:Int)≤1099511627776) {u:Value} {τ:FH} {L:List (Sh×D×Value)} (hT:Tr τ ((.im 88 shSlt,.im (l.map eSlt),u)::L)):
  BFun X 75 [.d (.s u),vi k] τ fun A τ'=>A=.ret (vi (mkL mkSlt l k).2)∧Tr τ' ((.im 88 shSlt,.im ((mkL mkSlt l k).1.map eSlt),u)::L):=by
 refine BFun.open hT rfl rfl ⟨_,Tryz.func75,by decide,rfl⟩ (by rw[List.length_map,List.length_map,J0W]) ?_
 intro V0 τ0 ha hT0
 rw[List.length_map]
 refine Jw Tryz.func75 rfl (by decide) Tryz.ntmps75 Tryz.results75 (by simp) ?_
 repeat' first|refine Z1 ?_|refine Z2 ?_|refine Zo ?_|refine J6 ?_|refine J5 ?_
 refine Jq (ι:=Nat×List (Slt)×Int×List (List Value)×FH) (fun x_=>envL [(0,.sl 1 1 0 l.length),(1,vi x_.2.2.1),(5,vi x_.1)]) (fun x_=>stL [some (.box x_.2.2.2.2),some (.row 1 88 2 (exR x_.2.2.2.1))]) (fun x_=>x_.1≤l.length∧x_.2.1.length=x_.1∧1≤x_.2.2.1∧(mkL mkSlt (l.drop x_.1) x_.2.2.1).2=(mkL mkSlt l k).2∧x_.2.1++(mkL mkSlt (l.drop x_.1) x_.2.2.1).1=(mkL mkSlt l k).1∧agrs shSlt ((x_.2.1++l.drop x_.1).map eSlt) x_.2.2.2.1∧Tr x_.2.2.2.2 (subss shSlt ((x_.2.1++l.drop x_.1).map eSlt) x_.2.2.2.1++L)∧x_.2.2.1+4*(wL (wSlt) (l.drop x_.1):Int)≤1099511627776) (fun x_=>l.length-x_.1) (0,[],k,V0,τ0) (⟨Nat.zero_le _,rfl,h1,rfl,rfl,ha,hT0,h2⟩) (Jj rfl ⟨.refl _,.refl _,.refl _,trivial⟩ ⟨⟨rfl,_,rfl,rfl⟩,⟨rfl,_,rfl,rfl,rfl,rfl,rfl⟩,trivial⟩) (fun _=>Nat.le_refl 2) ?_
 rintro⟨i,d,q,V,τ1⟩ ⟨i1,i2,i3,i4,i5,i6,i7,i8⟩
 simp only at i1 i2 i3 i4 i5 i6 i7 i8
 have hll:l.length≤wL (wSlt) l:=Nat.le_add_right _ _
 show Ok _ _ _ _ (envL [(0,.sl 1 1 0 l.length),(1,vi q),(5,vi i)]) (stL [some (.box τ1),some (.row 1 88 2 (exR V))])
 rcases hx:l[i]? with _|x
 ·have hle:=Jo hx
  have ek:decide ((i:Int)<((l.length-0:Nat):Int))=false:=J1 (by omega)
  rw[Jr hx]at i4 i5 i6 i7
  simp only[mkL,List.append_nil]at i4 i5 i6 i7
  subst i5
  repeat' first|refine Z1 ?_|refine Z2 ?_|refine Zo ?_|refine J6 ?_|refine Zq ?_|refine Jh ?_|refine Jb ?_|refine J3 ?_|refine Ja ?_|refine Zv ?_|refine Zt ?_
  exact⟨V,τ1,congrArg (fun v=>AEnd.ret (vi v)) i4,rfl,rfl,i6,i7⟩
 ·obtain⟨hd,hlt⟩:=Ji hx
  have ek:decide ((i:Int)<((l.length-0:Nat):Int))=true:=J0 (by omega)
  rw[hd]at i4 i5 i6 i7 i8
  rw[J0w]at i8
  simp only[mkL]at i4 i5
  rw[List.map_append]at i6 i7
  obtain⟨A,r,B,rfl,hA,a1,a2,a3⟩:=J0K (A:=d.map eSlt) (B:=(l.drop (i+1)).map eSlt) (x:=eSlt x) i6
  have hA':A.length=i:=by rw[List.length_map]at hA;omega
  have hcx:=cntSl x q
  have n3:1≤(mkSlt x q).2:=by omega
  have n8:(mkSlt x q).2+4*(wL (wSlt) (l.drop (i+1)):Int)≤1099511627776:=by omega
  have n5:(d++[(mkSlt x q).1])++(mkL mkSlt (l.drop (i+1)) (mkSlt x q).2).1=(mkL mkSlt l k).1:=by rw[List.append_assoc];exact i5
  obtain⟨r0,r1,rfl⟩:=len2 (J0l a2).2
  have n6:agrs shSlt (((d++[(mkSlt x q).1])++l.drop (i+1)).map eSlt) (A++[.string (markT (q)),.int .i64 (q+1)]::B):=by
   rw[List.append_assoc,List.map_append]
   exact J0e a1 ⟨by simp[agr,eSlt,mkSlt],a3⟩
  have n7:Tr τ1 (subss shSlt (((d++[(mkSlt x q).1])++l.drop (i+1)).map eSlt) (A++[.string (markT (q)),.int .i64 (q+1)]::B)++L):=by
   rw[J07 J3T]at i7 ⊢;exact i7
  repeat' first|refine Z1 ?_|refine Z2 ?_|refine Z3 ?_|refine Z5 ?_|refine Jy rfl rfl hlt rfl rfl rfl rfl ?_|refine Zc (J0N (q) (by omega) (by omega)) ?_|refine J17 (A:=A) (B:=B) (r:=[r0,r1]) (r':=[.string (markT (q)),r1]) (c:=0) hA' rfl rfl rfl rfl rfl rfl rfl rfl ?_|refine J17 (A:=A) (B:=B) (r:=[.string (markT (q)),r1]) (r':=[.string (markT (q)),.int .i64 (q+1)]) (c:=1) hA' rfl rfl rfl rfl rfl rfl rfl rfl ?_|refine Zf ?_|refine Zo ?_|refine J6 ?_|refine Jf ?_|refine Zp ?_|refine J5 ?_|refine J8 ?_|refine J3 ?_|refine J4 ?_
  exact⟨(i+1,d++[(mkSlt x q).1],(mkSlt x q).2,A++[.string (markT (q)),.int .i64 (q+1)]::B,τ1),⟨hlt,by simp[i2],n3,i4,n5,n6,n7,n8⟩,by(try simp only);omega,Jl (Nat.le_of_ble_eq_true rfl) ⟨⟨rfl,rfl⟩,⟨rfl,rfl⟩,⟨rfl,rfl⟩,trivial⟩ ⟨⟨rfl,trivial⟩,⟨rfl,Je rfl,J1j _ _⟩,trivial⟩⟩
theorem J5r (l:List (List Itm)) (k:Int) (h1:1≤k) (h2:k+4*(wL (wL wItm) l:Int)≤1099511627776) {u:Value} {τ:FH} {L:List (Sh×D×Value)} (hT:Tr τ ((.im 91 shItms,.im (l.map eItms),u)::L)):
  BFun X 127 [.d (.s u),vi k] τ fun A τ'=>A=.ret (vi (mkL mkItms l k).2)∧Tr τ' ((.im 91 shItms,.im ((mkL mkItms l k).1.map eItms),u)::L):=by
 refine BFun.open hT rfl rfl ⟨_,Tryz.func127,by decide,rfl⟩ (by rw[List.length_map,List.length_map,J0W]) ?_
 intro V0 τ0 ha hT0
 rw[List.length_map]
 refine Jw Tryz.func127 rfl (by decide) Tryz.ntmps127 Tryz.results127 (by simp) ?_
 repeat' first|refine Z1 ?_|refine Z2 ?_|refine Zo ?_|refine J6 ?_|refine J5 ?_
 refine Jq (ι:=Nat×List (List Itm)×Int×List (List Value)×FH) (fun x_=>envL [(0,.sl 1 1 0 l.length),(1,vi x_.2.2.1),(5,vi x_.1)]) (fun x_=>stL [some (.box x_.2.2.2.2),some (.row 1 91 1 (exR x_.2.2.2.1))]) (fun x_=>x_.1≤l.length∧x_.2.1.length=x_.1∧1≤x_.2.2.1∧(mkL mkItms (l.drop x_.1) x_.2.2.1).2=(mkL mkItms l k).2∧x_.2.1++(mkL mkItms (l.drop x_.1) x_.2.2.1).1=(mkL mkItms l k).1∧agrs shItms ((x_.2.1++l.drop x_.1).map eItms) x_.2.2.2.1∧Tr x_.2.2.2.2 (subss shItms ((x_.2.1++l.drop x_.1).map eItms) x_.2.2.2.1++L)∧x_.2.2.1+4*(wL (wL wItm) (l.drop x_.1):Int)≤1099511627776) (fun x_=>l.length-x_.1) (0,[],k,V0,τ0) (⟨Nat.zero_le _,rfl,h1,rfl,rfl,ha,hT0,h2⟩) (Jj rfl ⟨.refl _,.refl _,.refl _,trivial⟩ ⟨⟨rfl,_,rfl,rfl⟩,⟨rfl,_,rfl,rfl,rfl,rfl,rfl⟩,trivial⟩) (fun _=>Nat.le_refl 2) ?_
 rintro⟨i,d,q,V,τ1⟩ ⟨i1,i2,i3,i4,i5,i6,i7,i8⟩
 simp only at i1 i2 i3 i4 i5 i6 i7 i8
 have hll:l.length≤wL (wL wItm) l:=Nat.le_add_right _ _
 show Ok _ _ _ _ (envL [(0,.sl 1 1 0 l.length),(1,vi q),(5,vi i)]) (stL [some (.box τ1),some (.row 1 91 1 (exR V))])
 rcases hx:l[i]? with _|x
 ·have hle:=Jo hx
  have ek:decide ((i:Int)<((l.length-0:Nat):Int))=false:=J1 (by omega)
  rw[Jr hx]at i4 i5 i6 i7
  simp only[mkL,List.append_nil]at i4 i5 i6 i7
  subst i5
  repeat' first|refine Z1 ?_|refine Z2 ?_|refine Zo ?_|refine J6 ?_|refine Zq ?_|refine Jh ?_|refine Jb ?_|refine J3 ?_|refine Ja ?_|refine Zv ?_|refine Zt ?_
  exact⟨V,τ1,congrArg (fun v=>AEnd.ret (vi v)) i4,rfl,rfl,i6,i7⟩
 ·obtain⟨hd,hlt⟩:=Ji hx
  have ek:decide ((i:Int)<((l.length-0:Nat):Int))=true:=J0 (by omega)
  rw[hd]at i4 i5 i6 i7 i8
  rw[J0w]at i8
  simp only[mkL]at i4 i5
  rw[List.map_append]at i6 i7
  obtain⟨A,r,B,rfl,hA,a1,a2,a3⟩:=J0K (A:=d.map eItms) (B:=(l.drop (i+1)).map eItms) (x:=eItms x) i6
  have hA':A.length=i:=by rw[List.length_map]at hA;omega
  have hcx:=cntIs x q
  have n3:1≤(mkItms x q).2:=by omega
  have n8:(mkItms x q).2+4*(wL (wL wItm) (l.drop (i+1)):Int)≤1099511627776:=by omega
  have n5:(d++[(mkItms x q).1])++(mkL mkItms (l.drop (i+1)) (mkItms x q).2).1=(mkL mkItms l k).1:=by rw[List.append_assoc];exact i5
  obtain⟨r0,rfl⟩:=len1 (J0l a2).2
  rw[J0d hA]at i7
  have t0:Tr τ1 (([(.im 156 shItm,.im (x.map eItm),r0)]:List (Sh×D×Value))++(subss shItms (d.map eItms) A++(subss shItms ((l.drop (i+1)).map eItms) B++L))):=by
   refine i7.perm ?_
   rw[List.append_assoc]
   show List.Perm (_++((([(.im 156 shItm,.im (x.map eItm),r0)]:List (Sh×D×Value))++_)++_)) _
   rw[List.append_assoc]
   exact List.perm_append_comm_assoc _ _ _
  have c0:=cntL cntI x (q)
  have p0:=t0
  repeat' first|refine Z1 ?_|refine Z2 ?_|refine Z5 ?_|refine Jy rfl rfl hlt rfl rfl rfl rfl ?_|refine J1p (A:=A) (B:=B) (r:=[r0]) (v:=r0) (c:=0) hA' rfl rfl rfl rfl rfl rfl ?_|refine Yxx ((J2L x (q) (by omega) (by omega) p0).at (i:=0) rfl) ?_|refine Zo ?_|refine J6 ?_|refine Jf ?_|refine Zp ?_|refine J5 ?_|refine J8 ?_|refine J3 ?_
  rintro Z σ2 ⟨τ2,⟨rfl,t1⟩,rfl⟩
  refine⟨_,rfl,?_⟩
  have n6:agrs shItms (((d++[(mkItms x q).1])++l.drop (i+1)).map eItms) (A++[r0]::B):=by
   rw[List.append_assoc,List.map_append]
   exact J0e a1 ⟨by simp[agr,eItms,mkItms],a3⟩
  have n7:Tr τ2 (subss shItms (((d++[(mkItms x q).1])++l.drop (i+1)).map eItms) (A++[r0]::B)++L):=by
   rw[List.append_assoc,List.map_append,J0d hA]
   refine t1.perm ?_
   refine List.Perm.trans (List.Perm.append_right (subss shItms (d.map eItms) A++(subss shItms ((l.drop (i+1)).map eItms) B++L)) (show List.Perm (α:=Sh×D×Value) [(.im 156 shItm,.im ((mkL mkItm x (q)).1.map eItm),r0)] [(.im 156 shItm,.im ((mkL mkItm x (q)).1.map eItm),r0)]from List.reverse_perm (α:=Sh×D×Value) [(.im 156 shItm,.im ((mkL mkItm x (q)).1.map eItm),r0)])) ?_
   rw[List.append_assoc]
   show List.Perm _ (_++((([(.im 156 shItm,.im ((mkL mkItm x (q)).1.map eItm),r0)]:List (Sh×D×Value))++_)++_))
   rw[List.append_assoc]
   exact List.perm_append_comm_assoc _ _ _
  repeat' first|refine Z1 ?_|refine Z2 ?_|refine Z3 ?_|refine Z5 ?_|refine Zf ?_|refine Jf ?_|refine J3 ?_|refine J4 ?_
  exact⟨(i+1,d++[(mkItms x q).1],(mkItms x q).2,A++[r0]::B,τ2),⟨hlt,by simp[i2],n3,i4,n5,n6,n7,n8⟩,by(try simp only);omega,Jl (Nat.le_of_ble_eq_true rfl) ⟨⟨rfl,rfl⟩,⟨rfl,rfl⟩,⟨rfl,rfl⟩,trivial⟩ ⟨⟨rfl,trivial⟩,⟨rfl,Je rfl,J1j _ _⟩,trivial⟩⟩
theorem J78 (l:List (Sm)) (k:Int) (h1:1≤k) (h2:k+4*(wL (wSm) l:Int)≤1099511627776) {u:Value} {τ:FH} {L:List (Sh×D×Value)} (hT:Tr τ ((.im 96 shSm,.im (l.map eSm),u)::L)):
  BFun X 77 [.d (.s u),vi k] τ fun A τ'=>A=.ret (vi (mkL mkSm l k).2)∧Tr τ' ((.im 96 shSm,.im ((mkL mkSm l k).1.map eSm),u)::L):=by
 refine BFun.open hT rfl rfl ⟨_,Tryz.func77,by decide,rfl⟩ (by rw[List.length_map,List.length_map,J0W]) ?_
 intro V0 τ0 ha hT0
 rw[List.length_map]
 refine Jw Tryz.func77 rfl (by decide) Tryz.ntmps77 Tryz.results77 (by simp) ?_
 repeat' first|refine Z1 ?_|refine Z2 ?_|refine Zo ?_|refine J6 ?_|refine J5 ?_
 refine Jq (ι:=Nat×List (Sm)×Int×List (List Value)×FH) (fun x_=>envL [(0,.sl 1 1 0 l.length),(1,vi x_.2.2.1),(5,vi x_.1)]) (fun x_=>stL [some (.box x_.2.2.2.2),some (.row 1 96 6 (exR x_.2.2.2.1))]) (fun x_=>x_.1≤l.length∧x_.2.1.length=x_.1∧1≤x_.2.2.1∧(mkL mkSm (l.drop x_.1) x_.2.2.1).2=(mkL mkSm l k).2∧x_.2.1++(mkL mkSm (l.drop x_.1) x_.2.2.1).1=(mkL mkSm l k).1∧agrs shSm ((x_.2.1++l.drop x_.1).map eSm) x_.2.2.2.1∧Tr x_.2.2.2.2 (subss shSm ((x_.2.1++l.drop x_.1).map eSm) x_.2.2.2.1++L)∧x_.2.2.1+4*(wL (wSm) (l.drop x_.1):Int)≤1099511627776) (fun x_=>l.length-x_.1) (0,[],k,V0,τ0) (⟨Nat.zero_le _,rfl,h1,rfl,rfl,ha,hT0,h2⟩) (Jj rfl ⟨.refl _,.refl _,.refl _,trivial⟩ ⟨⟨rfl,_,rfl,rfl⟩,⟨rfl,_,rfl,rfl,rfl,rfl,rfl⟩,trivial⟩) (fun _=>Nat.le_refl 2) ?_
 rintro⟨i,d,q,V,τ1⟩ ⟨i1,i2,i3,i4,i5,i6,i7,i8⟩
 simp only at i1 i2 i3 i4 i5 i6 i7 i8
 have hll:l.length≤wL (wSm) l:=Nat.le_add_right _ _
 show Ok _ _ _ _ (envL [(0,.sl 1 1 0 l.length),(1,vi q),(5,vi i)]) (stL [some (.box τ1),some (.row 1 96 6 (exR V))])
 rcases hx:l[i]? with _|x
 ·have hle:=Jo hx
  have ek:decide ((i:Int)<((l.length-0:Nat):Int))=false:=J1 (by omega)
  rw[Jr hx]at i4 i5 i6 i7
  simp only[mkL,List.append_nil]at i4 i5 i6 i7
  subst i5
  repeat' first|refine Z1 ?_|refine Z2 ?_|refine Zo ?_|refine J6 ?_|refine Zq ?_|refine Jh ?_|refine Jb ?_|refine J3 ?_|refine Ja ?_|refine Zv ?_|refine Zt ?_
  exact⟨V,τ1,congrArg (fun v=>AEnd.ret (vi v)) i4,rfl,rfl,i6,i7⟩
 ·obtain⟨hd,hlt⟩:=Ji hx
  have ek:decide ((i:Int)<((l.length-0:Nat):Int))=true:=J0 (by omega)
  rw[hd]at i4 i5 i6 i7 i8
  rw[J0w]at i8
  simp only[mkL]at i4 i5
  rw[List.map_append]at i6 i7
  obtain⟨A,r,B,rfl,hA,a1,a2,a3⟩:=J0K (A:=d.map eSm) (B:=(l.drop (i+1)).map eSm) (x:=eSm x) i6
  have hA':A.length=i:=by rw[List.length_map]at hA;omega
  have hcx:=cntSm x q
  have n3:1≤(mkSm x q).2:=by omega
  have n8:(mkSm x q).2+4*(wL (wSm) (l.drop (i+1)):Int)≤1099511627776:=by omega
  have n5:(d++[(mkSm x q).1])++(mkL mkSm (l.drop (i+1)) (mkSm x q).2).1=(mkL mkSm l k).1:=by rw[List.append_assoc];exact i5
  obtain⟨r0,r1,r2,r3,r4,r5,rfl⟩:=len6 (J0l a2).2
  rw[J0d hA]at i7
  have t0:Tr τ1 (([(.im 9 shStr,.im (x.outs.map eStr),r3),(.im 156 shItm,.im (x.code.map eItm),r4),(.im 91 shItms,.im (x.args.map eItms),r5)]:List (Sh×D×Value))++(subss shSm (d.map eSm) A++(subss shSm ((l.drop (i+1)).map eSm) B++L))):=by
   refine i7.perm ?_
   rw[List.append_assoc]
   show List.Perm (_++((([(.im 9 shStr,.im (x.outs.map eStr),r3),(.im 156 shItm,.im (x.code.map eItm),r4),(.im 91 shItms,.im (x.args.map eItms),r5)]:List (Sh×D×Value))++_)++_)) _
   rw[List.append_assoc]
   exact List.perm_append_comm_assoc _ _ _
  simp only[wSm]at i8 hcx
  have c0:=cntL cntS x.outs (q+1+1+1)
  have p0:=t0
  repeat' first|refine Z1 ?_|refine Z2 ?_|refine Z5 ?_|refine Jy rfl rfl hlt rfl rfl rfl rfl ?_|refine J17 (A:=A) (B:=B) (r:=[r0,r1,r2,r3,r4,r5]) (r':=[.int .i64 (q),r1,r2,r3,r4,r5]) (c:=0) hA' rfl rfl rfl rfl rfl rfl rfl rfl ?_|refine Zc (J0N (q+1) (by omega) (by omega)) ?_|refine J17 (A:=A) (B:=B) (r:=[.int .i64 (q),r1,r2,r3,r4,r5]) (r':=[.int .i64 (q),.string (markT (q+1)),r2,r3,r4,r5]) (c:=1) hA' rfl rfl rfl rfl rfl rfl rfl rfl ?_|refine J17 (A:=A) (B:=B) (r:=[.int .i64 (q),.string (markT (q+1)),r2,r3,r4,r5]) (r':=[.int .i64 (q),.string (markT (q+1)),.int .i64 (q+1+1),r3,r4,r5]) (c:=2) hA' rfl rfl rfl rfl rfl rfl rfl rfl ?_|refine J1p (A:=A) (B:=B) (r:=[.int .i64 (q),.string (markT (q+1)),.int .i64 (q+1+1),r3,r4,r5]) (v:=r3) (c:=3) hA' rfl rfl rfl rfl rfl rfl ?_|refine Yxx ((J1Q x.outs (q+1+1+1) (by omega) (by omega) p0).at (i:=0) rfl) ?_|refine Zf ?_|refine Zo ?_|refine J6 ?_|refine Zp ?_|refine J5 ?_|refine J8 ?_|refine J3 ?_
  rintro Z σ2 ⟨τ2,⟨rfl,t1⟩,rfl⟩
  refine⟨_,rfl,?_⟩
  have c1:=cntL cntI x.code ((mkL mkStr x.outs (q+1+1+1)).2)
  have p1:=t1.perm (List.perm_middle (l₁:=[(.im 9 shStr,.im ((mkL mkStr x.outs (q+1+1+1)).1.map eStr),r3)]))
  repeat' first|refine Z1 ?_|refine Z2 ?_|refine Z5 ?_|refine Jy rfl rfl hlt rfl rfl rfl rfl ?_|refine J1p (A:=A) (B:=B) (r:=[.int .i64 (q),.string (markT (q+1)),.int .i64 (q+1+1),r3,r4,r5]) (v:=r4) (c:=4) hA' rfl rfl rfl rfl rfl rfl ?_|refine Yxx ((J2L x.code ((mkL mkStr x.outs (q+1+1+1)).2) (by omega) (by omega) p1).at (i:=0) rfl) ?_|refine Zo ?_
  rintro Z σ3 ⟨τ3,⟨rfl,t2⟩,rfl⟩
  refine⟨_,rfl,?_⟩
  have c2:=cntL cntIs x.args ((mkL mkItm x.code ((mkL mkStr x.outs (q+1+1+1)).2)).2)
  have p2:=t2.perm (List.perm_middle (l₁:=[(.im 156 shItm,.im ((mkL mkItm x.code ((mkL mkStr x.outs (q+1+1+1)).2)).1.map eItm),r4),(.im 9 shStr,.im ((mkL mkStr x.outs (q+1+1+1)).1.map eStr),r3)]))
  repeat' first|refine Z1 ?_|refine Z2 ?_|refine Z5 ?_|refine Jy rfl rfl hlt rfl rfl rfl rfl ?_|refine J1p (A:=A) (B:=B) (r:=[.int .i64 (q),.string (markT (q+1)),.int .i64 (q+1+1),r3,r4,r5]) (v:=r5) (c:=5) hA' rfl rfl rfl rfl rfl rfl ?_|refine Yxx ((J5r x.args ((mkL mkItm x.code ((mkL mkStr x.outs (q+1+1+1)).2)).2) (by omega) (by omega) p2).at (i:=0) rfl) ?_|refine Jf ?_
  rintro Z σ4 ⟨τ4,⟨rfl,t3⟩,rfl⟩
  refine⟨_,rfl,?_⟩
  have n6:agrs shSm (((d++[(mkSm x q).1])++l.drop (i+1)).map eSm) (A++[.int .i64 (q),.string (markT (q+1)),.int .i64 (q+1+1),r3,r4,r5]::B):=by
   rw[List.append_assoc,List.map_append]
   exact J0e a1 ⟨by simp[agr,eSm,mkSm],a3⟩
  have n7:Tr τ4 (subss shSm (((d++[(mkSm x q).1])++l.drop (i+1)).map eSm) (A++[.int .i64 (q),.string (markT (q+1)),.int .i64 (q+1+1),r3,r4,r5]::B)++L):=by
   rw[List.append_assoc,List.map_append,J0d hA]
   refine t3.perm ?_
   refine List.Perm.trans (List.Perm.append_right (subss shSm (d.map eSm) A++(subss shSm ((l.drop (i+1)).map eSm) B++L)) (show List.Perm (α:=Sh×D×Value) [(.im 91 shItms,.im ((mkL mkItms x.args ((mkL mkItm x.code ((mkL mkStr x.outs (q+1+1+1)).2)).2)).1.map eItms),r5),(.im 156 shItm,.im ((mkL mkItm x.code ((mkL mkStr x.outs (q+1+1+1)).2)).1.map eItm),r4),(.im 9 shStr,.im ((mkL mkStr x.outs (q+1+1+1)).1.map eStr),r3)] [(.im 9 shStr,.im ((mkL mkStr x.outs (q+1+1+1)).1.map eStr),r3),(.im 156 shItm,.im ((mkL mkItm x.code ((mkL mkStr x.outs (q+1+1+1)).2)).1.map eItm),r4),(.im 91 shItms,.im ((mkL mkItms x.args ((mkL mkItm x.code ((mkL mkStr x.outs (q+1+1+1)).2)).2)).1.map eItms),r5)]from List.reverse_perm (α:=Sh×D×Value) [(.im 9 shStr,.im ((mkL mkStr x.outs (q+1+1+1)).1.map eStr),r3),(.im 156 shItm,.im ((mkL mkItm x.code ((mkL mkStr x.outs (q+1+1+1)).2)).1.map eItm),r4),(.im 91 shItms,.im ((mkL mkItms x.args ((mkL mkItm x.code ((mkL mkStr x.outs (q+1+1+1)).2)).2)).1.map eItms),r5)])) ?_
   rw[List.append_assoc]
   show List.Perm _ (_++((([(.im 9 shStr,.im ((mkL mkStr x.outs (q+1+1+1)).1.map eStr),r3),(.im 156 shItm,.im ((mkL mkItm x.code ((mkL mkStr x.outs (q+1+1+1)).2)).1.map eItm),r4),(.im 91 shItms,.im ((mkL mkItms x.args ((mkL mkItm x.code ((mkL mkStr x.outs (q+1+1+1)).2)).2)).1.map eItms),r5)]:List (Sh×D×Value))++_)++_))
   rw[List.append_assoc]
   exact List.perm_append_comm_assoc _ _ _
  repeat' first|refine Z1 ?_|refine Z2 ?_|refine Z3 ?_|refine Z5 ?_|refine Zf ?_|refine Jf ?_|refine J3 ?_|refine J4 ?_
  exact⟨(i+1,d++[(mkSm x q).1],(mkSm x q).2,A++[.int .i64 (q),.string (markT (q+1)),.int .i64 (q+1+1),r3,r4,r5]::B,τ4),⟨hlt,by simp[i2],n3,i4,n5,n6,n7,n8⟩,by(try simp only);omega,Jl (Nat.le_of_ble_eq_true rfl) ⟨⟨rfl,rfl⟩,⟨rfl,rfl⟩,⟨rfl,rfl⟩,trivial⟩ ⟨⟨rfl,trivial⟩,⟨rfl,Je rfl,J1j _ _⟩,trivial⟩⟩
theorem J5n (l:List (Cls)) (k:Int) (h1:1≤k) (h2:k+4*(wL (wCls) l:Int)≤1099511627776) {u:Value} {τ:FH} {L:List (Sh×D×Value)} (hT:Tr τ ((.im 53 shCls,.im (l.map eCls),u)::L)):
  BFun X 36 [.d (.s u),vi k] τ fun A τ'=>A=.ret (vi (mkL mkCls l k).2)∧Tr τ' ((.im 53 shCls,.im ((mkL mkCls l k).1.map eCls),u)::L):=by
 refine BFun.open hT rfl rfl ⟨_,Tryz.func36,by decide,rfl⟩ (by rw[List.length_map,List.length_map,J0W]) ?_
 intro V0 τ0 ha hT0
 rw[List.length_map]
 refine Jw Tryz.func36 rfl (by decide) Tryz.ntmps36 Tryz.results36 (by simp) ?_
 repeat' first|refine Z1 ?_|refine Z2 ?_|refine Zo ?_|refine J6 ?_|refine J5 ?_
 refine Jq (ι:=Nat×List (Cls)×Int×List (List Value)×FH) (fun x_=>envL [(0,.sl 1 1 0 l.length),(1,vi x_.2.2.1),(5,vi x_.1)]) (fun x_=>stL [some (.box x_.2.2.2.2),some (.row 1 53 7 (exR x_.2.2.2.1))]) (fun x_=>x_.1≤l.length∧x_.2.1.length=x_.1∧1≤x_.2.2.1∧(mkL mkCls (l.drop x_.1) x_.2.2.1).2=(mkL mkCls l k).2∧x_.2.1++(mkL mkCls (l.drop x_.1) x_.2.2.1).1=(mkL mkCls l k).1∧agrs shCls ((x_.2.1++l.drop x_.1).map eCls) x_.2.2.2.1∧Tr x_.2.2.2.2 (subss shCls ((x_.2.1++l.drop x_.1).map eCls) x_.2.2.2.1++L)∧x_.2.2.1+4*(wL (wCls) (l.drop x_.1):Int)≤1099511627776) (fun x_=>l.length-x_.1) (0,[],k,V0,τ0) (⟨Nat.zero_le _,rfl,h1,rfl,rfl,ha,hT0,h2⟩) (Jj rfl ⟨.refl _,.refl _,.refl _,trivial⟩ ⟨⟨rfl,_,rfl,rfl⟩,⟨rfl,_,rfl,rfl,rfl,rfl,rfl⟩,trivial⟩) (fun _=>Nat.le_refl 2) ?_
 rintro⟨i,d,q,V,τ1⟩ ⟨i1,i2,i3,i4,i5,i6,i7,i8⟩
 simp only at i1 i2 i3 i4 i5 i6 i7 i8
 have hll:l.length≤wL (wCls) l:=Nat.le_add_right _ _
 show Ok _ _ _ _ (envL [(0,.sl 1 1 0 l.length),(1,vi q),(5,vi i)]) (stL [some (.box τ1),some (.row 1 53 7 (exR V))])
 rcases hx:l[i]? with _|x
 ·have hle:=Jo hx
  have ek:decide ((i:Int)<((l.length-0:Nat):Int))=false:=J1 (by omega)
  rw[Jr hx]at i4 i5 i6 i7
  simp only[mkL,List.append_nil]at i4 i5 i6 i7
  subst i5
  repeat' first|refine Z1 ?_|refine Z2 ?_|refine Zo ?_|refine J6 ?_|refine Zq ?_|refine Jh ?_|refine Jb ?_|refine J3 ?_|refine Ja ?_|refine Zv ?_|refine Zt ?_
  exact⟨V,τ1,congrArg (fun v=>AEnd.ret (vi v)) i4,rfl,rfl,i6,i7⟩
 ·obtain⟨hd,hlt⟩:=Ji hx
  have ek:decide ((i:Int)<((l.length-0:Nat):Int))=true:=J0 (by omega)
  rw[hd]at i4 i5 i6 i7 i8
  rw[J0w]at i8
  simp only[mkL]at i4 i5
  rw[List.map_append]at i6 i7
  obtain⟨A,r,B,rfl,hA,a1,a2,a3⟩:=J0K (A:=d.map eCls) (B:=(l.drop (i+1)).map eCls) (x:=eCls x) i6
  have hA':A.length=i:=by rw[List.length_map]at hA;omega
  have hcx:=cntCl x q
  have n3:1≤(mkCls x q).2:=by omega
  have n8:(mkCls x q).2+4*(wL (wCls) (l.drop (i+1)):Int)≤1099511627776:=by omega
  have n5:(d++[(mkCls x q).1])++(mkL mkCls (l.drop (i+1)) (mkCls x q).2).1=(mkL mkCls l k).1:=by rw[List.append_assoc];exact i5
  obtain⟨r0,r1,r2,r3,r4,r5,r6,rfl⟩:=len7 (J0l a2).2
  rw[J0d hA]at i7
  have t0:Tr τ1 (([(.im 88 shSlt,.im (x.ins.map eSlt),r1),(.im 88 shSlt,.im (x.outs.map eSlt),r2),(.im 9 shStr,.im (x.locs.map eStr),r3),(.im 3 shNum,.im (x.mems.map eNum),r4),(.im 3 shNum,.im (x.insts.map eNum),r5),(.im 96 shSm,.im (x.body.map eSm),r6)]:List (Sh×D×Value))++(subss shCls (d.map eCls) A++(subss shCls ((l.drop (i+1)).map eCls) B++L))):=by
   refine i7.perm ?_
   rw[List.append_assoc]
   show List.Perm (_++((([(.im 88 shSlt,.im (x.ins.map eSlt),r1),(.im 88 shSlt,.im (x.outs.map eSlt),r2),(.im 9 shStr,.im (x.locs.map eStr),r3),(.im 3 shNum,.im (x.mems.map eNum),r4),(.im 3 shNum,.im (x.insts.map eNum),r5),(.im 96 shSm,.im (x.body.map eSm),r6)]:List (Sh×D×Value))++_)++_)) _
   rw[List.append_assoc]
   exact List.perm_append_comm_assoc _ _ _
  simp only[wCls]at i8 hcx
  have c0:=cntL cntSl x.ins (q+1)
  have p0:=t0
  repeat' first|refine Z1 ?_|refine Z2 ?_|refine Z5 ?_|refine Jy rfl rfl hlt rfl rfl rfl rfl ?_|refine Zc (J0N (q) (by omega) (by omega)) ?_|refine J17 (A:=A) (B:=B) (r:=[r0,r1,r2,r3,r4,r5,r6]) (r':=[.string (markT (q)),r1,r2,r3,r4,r5,r6]) (c:=0) hA' rfl rfl rfl rfl rfl rfl rfl rfl ?_|refine J1p (A:=A) (B:=B) (r:=[.string (markT (q)),r1,r2,r3,r4,r5,r6]) (v:=r1) (c:=1) hA' rfl rfl rfl rfl rfl rfl ?_|refine Yxx ((J2X x.ins (q+1) (by omega) (by omega) p0).at (i:=0) rfl) ?_|refine Zf ?_|refine Zo ?_|refine J6 ?_|refine Zp ?_|refine J5 ?_|refine J8 ?_|refine J3 ?_
  rintro Z σ2 ⟨τ2,⟨rfl,t1⟩,rfl⟩
  refine⟨_,rfl,?_⟩
  have c1:=cntL cntSl x.outs ((mkL mkSlt x.ins (q+1)).2)
  have p1:=t1.perm (List.perm_middle (l₁:=[(.im 88 shSlt,.im ((mkL mkSlt x.ins (q+1)).1.map eSlt),r1)]))
  repeat' first|refine Z1 ?_|refine Z2 ?_|refine Z5 ?_|refine Jy rfl rfl hlt rfl rfl rfl rfl ?_|refine J1p (A:=A) (B:=B) (r:=[.string (markT (q)),r1,r2,r3,r4,r5,r6]) (v:=r2) (c:=2) hA' rfl rfl rfl rfl rfl rfl ?_|refine Yxx ((J2X x.outs ((mkL mkSlt x.ins (q+1)).2) (by omega) (by omega) p1).at (i:=0) rfl) ?_|refine Zo ?_
  rintro Z σ3 ⟨τ3,⟨rfl,t2⟩,rfl⟩
  refine⟨_,rfl,?_⟩
  have c2:=cntL cntS x.locs ((mkL mkSlt x.outs ((mkL mkSlt x.ins (q+1)).2)).2)
  have p2:=t2.perm (List.perm_middle (l₁:=[(.im 88 shSlt,.im ((mkL mkSlt x.outs ((mkL mkSlt x.ins (q+1)).2)).1.map eSlt),r2),(.im 88 shSlt,.im ((mkL mkSlt x.ins (q+1)).1.map eSlt),r1)]))
  repeat' first|refine Z1 ?_|refine Z2 ?_|refine Z5 ?_|refine Jy rfl rfl hlt rfl rfl rfl rfl ?_|refine J1p (A:=A) (B:=B) (r:=[.string (markT (q)),r1,r2,r3,r4,r5,r6]) (v:=r3) (c:=3) hA' rfl rfl rfl rfl rfl rfl ?_|refine Yxx ((J1Q x.locs ((mkL mkSlt x.outs ((mkL mkSlt x.ins (q+1)).2)).2) (by omega) (by omega) p2).at (i:=0) rfl) ?_|refine Zo ?_
  rintro Z σ4 ⟨τ4,⟨rfl,t3⟩,rfl⟩
  refine⟨_,rfl,?_⟩
  have c3:=cntL cntN x.mems ((mkL mkStr x.locs ((mkL mkSlt x.outs ((mkL mkSlt x.ins (q+1)).2)).2)).2)
  have p3:=t3.perm (List.perm_middle (l₁:=[(.im 9 shStr,.im ((mkL mkStr x.locs ((mkL mkSlt x.outs ((mkL mkSlt x.ins (q+1)).2)).2)).1.map eStr),r3),(.im 88 shSlt,.im ((mkL mkSlt x.outs ((mkL mkSlt x.ins (q+1)).2)).1.map eSlt),r2),(.im 88 shSlt,.im ((mkL mkSlt x.ins (q+1)).1.map eSlt),r1)]))
  repeat' first|refine Z1 ?_|refine Z2 ?_|refine Z5 ?_|refine Jy rfl rfl hlt rfl rfl rfl rfl ?_|refine J1p (A:=A) (B:=B) (r:=[.string (markT (q)),r1,r2,r3,r4,r5,r6]) (v:=r4) (c:=4) hA' rfl rfl rfl rfl rfl rfl ?_|refine Yxx ((J0r x.mems ((mkL mkStr x.locs ((mkL mkSlt x.outs ((mkL mkSlt x.ins (q+1)).2)).2)).2) (by omega) (by omega) p3).at (i:=0) rfl) ?_|refine Zo ?_
  rintro Z σ5 ⟨τ5,⟨rfl,t4⟩,rfl⟩
  refine⟨_,rfl,?_⟩
  have c4:=cntL cntN x.insts ((mkL mkNum x.mems ((mkL mkStr x.locs ((mkL mkSlt x.outs ((mkL mkSlt x.ins (q+1)).2)).2)).2)).2)
  have p4:=t4.perm (List.perm_middle (l₁:=[(.im 3 shNum,.im ((mkL mkNum x.mems ((mkL mkStr x.locs ((mkL mkSlt x.outs ((mkL mkSlt x.ins (q+1)).2)).2)).2)).1.map eNum),r4),(.im 9 shStr,.im ((mkL mkStr x.locs ((mkL mkSlt x.outs ((mkL mkSlt x.ins (q+1)).2)).2)).1.map eStr),r3),(.im 88 shSlt,.im ((mkL mkSlt x.outs ((mkL mkSlt x.ins (q+1)).2)).1.map eSlt),r2),(.im 88 shSlt,.im ((mkL mkSlt x.ins (q+1)).1.map eSlt),r1)]))
  repeat' first|refine Z1 ?_|refine Z2 ?_|refine Z5 ?_|refine Jy rfl rfl hlt rfl rfl rfl rfl ?_|refine J1p (A:=A) (B:=B) (r:=[.string (markT (q)),r1,r2,r3,r4,r5,r6]) (v:=r5) (c:=5) hA' rfl rfl rfl rfl rfl rfl ?_|refine Yxx ((J0r x.insts ((mkL mkNum x.mems ((mkL mkStr x.locs ((mkL mkSlt x.outs ((mkL mkSlt x.ins (q+1)).2)).2)).2)).2) (by omega) (by omega) p4).at (i:=0) rfl) ?_|refine Zo ?_
  rintro Z σ6 ⟨τ6,⟨rfl,t5⟩,rfl⟩
  refine⟨_,rfl,?_⟩
  have c5:=cntL cntSm x.body ((mkL mkNum x.insts ((mkL mkNum x.mems ((mkL mkStr x.locs ((mkL mkSlt x.outs ((mkL mkSlt x.ins (q+1)).2)).2)).2)).2)).2)
  have p5:=t5.perm (List.perm_middle (l₁:=[(.im 3 shNum,.im ((mkL mkNum x.insts ((mkL mkNum x.mems ((mkL mkStr x.locs ((mkL mkSlt x.outs ((mkL mkSlt x.ins (q+1)).2)).2)).2)).2)).1.map eNum),r5),(.im 3 shNum,.im ((mkL mkNum x.mems ((mkL mkStr x.locs ((mkL mkSlt x.outs ((mkL mkSlt x.ins (q+1)).2)).2)).2)).1.map eNum),r4),(.im 9 shStr,.im ((mkL mkStr x.locs ((mkL mkSlt x.outs ((mkL mkSlt x.ins (q+1)).2)).2)).1.map eStr),r3),(.im 88 shSlt,.im ((mkL mkSlt x.outs ((mkL mkSlt x.ins (q+1)).2)).1.map eSlt),r2),(.im 88 shSlt,.im ((mkL mkSlt x.ins (q+1)).1.map eSlt),r1)]))
  repeat' first|refine Z1 ?_|refine Z2 ?_|refine Z5 ?_|refine Jy rfl rfl hlt rfl rfl rfl rfl ?_|refine J1p (A:=A) (B:=B) (r:=[.string (markT (q)),r1,r2,r3,r4,r5,r6]) (v:=r6) (c:=6) hA' rfl rfl rfl rfl rfl rfl ?_|refine Yxx ((J78 x.body ((mkL mkNum x.insts ((mkL mkNum x.mems ((mkL mkStr x.locs ((mkL mkSlt x.outs ((mkL mkSlt x.ins (q+1)).2)).2)).2)).2)).2) (by omega) (by omega) p5).at (i:=0) rfl) ?_|refine Jf ?_
  rintro Z σ7 ⟨τ7,⟨rfl,t6⟩,rfl⟩
  refine⟨_,rfl,?_⟩
  have n6:agrs shCls (((d++[(mkCls x q).1])++l.drop (i+1)).map eCls) (A++[.string (markT (q)),r1,r2,r3,r4,r5,r6]::B):=by
   rw[List.append_assoc,List.map_append]
   exact J0e a1 ⟨by simp[agr,eCls,mkCls],a3⟩
  have n7:Tr τ7 (subss shCls (((d++[(mkCls x q).1])++l.drop (i+1)).map eCls) (A++[.string (markT (q)),r1,r2,r3,r4,r5,r6]::B)++L):=by
   rw[List.append_assoc,List.map_append,J0d hA]
   refine t6.perm ?_
   refine List.Perm.trans (List.Perm.append_right (subss shCls (d.map eCls) A++(subss shCls ((l.drop (i+1)).map eCls) B++L)) (show List.Perm (α:=Sh×D×Value) [(.im 96 shSm,.im ((mkL mkSm x.body ((mkL mkNum x.insts ((mkL mkNum x.mems ((mkL mkStr x.locs ((mkL mkSlt x.outs ((mkL mkSlt x.ins (q+1)).2)).2)).2)).2)).2)).1.map eSm),r6),(.im 3 shNum,.im ((mkL mkNum x.insts ((mkL mkNum x.mems ((mkL mkStr x.locs ((mkL mkSlt x.outs ((mkL mkSlt x.ins (q+1)).2)).2)).2)).2)).1.map eNum),r5),(.im 3 shNum,.im ((mkL mkNum x.mems ((mkL mkStr x.locs ((mkL mkSlt x.outs ((mkL mkSlt x.ins (q+1)).2)).2)).2)).1.map eNum),r4),(.im 9 shStr,.im ((mkL mkStr x.locs ((mkL mkSlt x.outs ((mkL mkSlt x.ins (q+1)).2)).2)).1.map eStr),r3),(.im 88 shSlt,.im ((mkL mkSlt x.outs ((mkL mkSlt x.ins (q+1)).2)).1.map eSlt),r2),(.im 88 shSlt,.im ((mkL mkSlt x.ins (q+1)).1.map eSlt),r1)] [(.im 88 shSlt,.im ((mkL mkSlt x.ins (q+1)).1.map eSlt),r1),(.im 88 shSlt,.im ((mkL mkSlt x.outs ((mkL mkSlt x.ins (q+1)).2)).1.map eSlt),r2),(.im 9 shStr,.im ((mkL mkStr x.locs ((mkL mkSlt x.outs ((mkL mkSlt x.ins (q+1)).2)).2)).1.map eStr),r3),(.im 3 shNum,.im ((mkL mkNum x.mems ((mkL mkStr x.locs ((mkL mkSlt x.outs ((mkL mkSlt x.ins (q+1)).2)).2)).2)).1.map eNum),r4),(.im 3 shNum,.im ((mkL mkNum x.insts ((mkL mkNum x.mems ((mkL mkStr x.locs ((mkL mkSlt x.outs ((mkL mkSlt x.ins (q+1)).2)).2)).2)).2)).1.map eNum),r5),(.im 96 shSm,.im ((mkL mkSm x.body ((mkL mkNum x.insts ((mkL mkNum x.mems ((mkL mkStr x.locs ((mkL mkSlt x.outs ((mkL mkSlt x.ins (q+1)).2)).2)).2)).2)).2)).1.map eSm),r6)]from List.reverse_perm (α:=Sh×D×Value) [(.im 88 shSlt,.im ((mkL mkSlt x.ins (q+1)).1.map eSlt),r1),(.im 88 shSlt,.im ((mkL mkSlt x.outs ((mkL mkSlt x.ins (q+1)).2)).1.map eSlt),r2),(.im 9 shStr,.im ((mkL mkStr x.locs ((mkL mkSlt x.outs ((mkL mkSlt x.ins (q+1)).2)).2)).1.map eStr),r3),(.im 3 shNum,.im ((mkL mkNum x.mems ((mkL mkStr x.locs ((mkL mkSlt x.outs ((mkL mkSlt x.ins (q+1)).2)).2)).2)).1.map eNum),r4),(.im 3 shNum,.im ((mkL mkNum x.insts ((mkL mkNum x.mems ((mkL mkStr x.locs ((mkL mkSlt x.outs ((mkL mkSlt x.ins (q+1)).2)).2)).2)).2)).1.map eNum),r5),(.im 96 shSm,.im ((mkL mkSm x.body ((mkL mkNum x.insts ((mkL mkNum x.mems ((mkL mkStr x.locs ((mkL mkSlt x.outs ((mkL mkSlt x.ins (q+1)).2)).2)).2)).2)).2)).1.map eSm),r6)])) ?_
   rw[List.append_assoc]
   show List.Perm _ (_++((([(.im 88 shSlt,.im ((mkL mkSlt x.ins (q+1)).1.map eSlt),r1),(.im 88 shSlt,.im ((mkL mkSlt x.outs ((mkL mkSlt x.ins (q+1)).2)).1.map eSlt),r2),(.im 9 shStr,.im ((mkL mkStr x.locs ((mkL mkSlt x.outs ((mkL mkSlt x.ins (q+1)).2)).2)).1.map eStr),r3),(.im 3 shNum,.im ((mkL mkNum x.mems ((mkL mkStr x.locs ((mkL mkSlt x.outs ((mkL mkSlt x.ins (q+1)).2)).2)).2)).1.map eNum),r4),(.im 3 shNum,.im ((mkL mkNum x.insts ((mkL mkNum x.mems ((mkL mkStr x.locs ((mkL mkSlt x.outs ((mkL mkSlt x.ins (q+1)).2)).2)).2)).2)).1.map eNum),r5),(.im 96 shSm,.im ((mkL mkSm x.body ((mkL mkNum x.insts ((mkL mkNum x.mems ((mkL mkStr x.locs ((mkL mkSlt x.outs ((mkL mkSlt x.ins (q+1)).2)).2)).2)).2)).2)).1.map eSm),r6)]:List (Sh×D×Value))++_)++_))
   rw[List.append_assoc]
   exact List.perm_append_comm_assoc _ _ _
  repeat' first|refine Z1 ?_|refine Z2 ?_|refine Z3 ?_|refine Z5 ?_|refine Zf ?_|refine Jf ?_|refine J3 ?_|refine J4 ?_
  exact⟨(i+1,d++[(mkCls x q).1],(mkCls x q).2,A++[.string (markT (q)),r1,r2,r3,r4,r5,r6]::B,τ7),⟨hlt,by simp[i2],n3,i4,n5,n6,n7,n8⟩,by(try simp only);omega,Jl (Nat.le_of_ble_eq_true rfl) ⟨⟨rfl,rfl⟩,⟨rfl,rfl⟩,⟨rfl,rfl⟩,trivial⟩ ⟨⟨rfl,trivial⟩,⟨rfl,Je rfl,J1j _ _⟩,trivial⟩⟩
theorem J52 (l:List Cls) (k:Int) (h1:1≤k) (h2:k+4*(wL wCls l:Int)≤1099511627776) {u:Value} {τ:FH} {L:List (Sh×D×Value)} (hT:Tr τ ((.im 53 shCls,.im (l.map eCls),u)::L)):
  BFun X 14 [.agg [.d (.s u)],vi k] τ fun A τ'=>A=.ret (vi (mkL mkCls l k).2)∧Tr τ' ((.im 53 shCls,.im ((mkL mkCls l k).1.map eCls),u)::L):=by
 obtain⟨ua,un,uc,rfl⟩:=hT.sl
 refine BFun.words rfl ?_
 refine Jw Tryz.func14 rfl (by decide) Tryz.ntmps14 Tryz.results14 (by simp) ?_
 repeat' first|refine Z1 ?_|refine Z2 ?_|refine Z5 ?_|refine Yxx ((J5n l k h1 h2 hT).at (i:=0) rfl) ?_|refine Zo ?_
 rintro Z σ2 ⟨τ1,⟨rfl,t1⟩,rfl⟩
 refine⟨_,rfl,?_⟩
 repeat' first|refine Z1 ?_|refine Z2 ?_|refine Zo ?_|refine Jb ?_|refine Zt ?_
 exact⟨τ1,⟨rfl,t1⟩,rfl,_,rfl,rfl⟩
end Go.Pm
/- Part of the proof: Rs1. -/
namespace Go.Pm
attribute [local irreducible] AR Ok inBlock andThen endQ aoper
set_option maxHeartbeats 2000000
open Go.Proofs
def rstF (cs:List Cls):Nat→Nat→List Int
 |0,_=>[]
 |f+1,k=>match cs[k]? with
  |none=>[]
  |some c=>c.mems++(c.insts.map fun g=>rstF cs f g.toNat).flatten
theorem J2q {A B:List Int}:∀{l:List Int} {n:Int},(∀g∈l,A[g.toNat]? = B[g.toNat]?)→instSum A n l=instSum B n l
 |[],_,_=>rfl
 |g::l,n,h=>by simp only[instSum];rw[h g (by simp),J2q fun x hx=>h x (by simp[hx])]
theorem J1Z:∀(r:List Cls) (Z:List Int) (i:Nat),i<Z.length→(cellsGo Z r)[i]? = Z[i]?
 |[],Z,i,_=>rfl
 |c::r,Z,i,h=>by simp only[cellsGo];rw[J1Z r _ i (by simp;omega),List.getElem?_append_left h]
theorem J4C:∀(r:List Cls) (Z:List Int) (j:Nat) (c:Cls),r[j]? = some c→(∀g∈c.insts,0≤g∧g<((Z.length+j:Nat):Int))→(cellsGo Z r)[Z.length+j]? = some (min (instSum (cellsGo Z r) c.mems.length c.insts) 20001)
 |[],_,_,_,h,_=>by simp at h
 |d::r,Z,0,c,h,hg=>by
  have h:d=c:=by simpa using h
  subst h
  simp only[cellsGo,Nat.add_zero]
  rw[J1Z r _ Z.length (by simp),List.getElem?_append_right (Nat.le_refl _),Nat.sub_self]
  simp only[List.getElem?_cons_zero]
  refine congrArg (fun z=>some (min z 20001)) (J2q fun g hgm=>?_)
  have:=hg g hgm
  rw[J1Z r _ _ (by simp;omega),List.getElem?_append_left (by omega)]
 |d::r,Z,j+1,c,h,hg=>by
  simp only[cellsGo]
  have:=J4C r (Z++[min (instSum Z d.mems.length d.insts) 20001]) j c (by simpa using h) (fun g hgm=>by have:=hg g hgm;simp only[List.length_append,List.length_singleton];omega)
  rw[←this]
  congr 1
  simp only[List.length_append,List.length_singleton];omega
theorem J43 {Z:List Int} {F:Int→List Int}:∀(l:List Int) (n:Int),(∀g∈l,((F g).length:Int)=(Z[g.toNat]?).getD 0)→instSum Z n l=n+((l.map F).flatten.length:Int)
 |[],n,_=>by simp[instSum]
 |g::l,n,h=>by
  simp only[instSum,List.map_cons,List.flatten_cons,List.length_append]
  rw[J43 l _ fun x hx=>h x (by simp[hx]),←h g (by simp)]
  omega
theorem J97 {cs:List Cls} (h:mokS cs=true):∀z∈cellsS cs,z≤20000:=by
 obtain⟨m1,_⟩:=Jc8 cs
 unfold mokS at h
 split at h
 ·cases h
 split at h
 ·cases h
 split at h
 ·cases h
 rename_i q
 intro z hz
 have hq:(cellsS cs).all (fun z=>decide (z≤20000))=true:=by simpa using q
 simpa using List.all_eq_true.1 hq z hz
theorem J5T {cs:List Cls} (h:mokS cs=true) {k:Nat} {c:Cls} (hx:cs[k]? = some c):(cellsS cs)[k]? = some (instSum (cellsS cs) c.mems.length c.insts)∧instSum (cellsS cs) c.mems.length c.insts≤20000:=by
 have hg:=(J0v h k c hx).2.1
 have h1:=J4C cs [] k c hx (by simpa using hg)
 simp only[List.length_nil,Nat.zero_add]at h1
 have h2:=J97 h _ (List.mem_of_getElem? h1)
 have e:cellsGo [] cs=cellsS cs:=rfl
 rw[e]at h1 h2
 have h3:instSum (cellsS cs) c.mems.length c.insts≤20000:=by omega
 rw[show min (instSum (cellsS cs) c.mems.length c.insts) 20001=instSum (cellsS cs) c.mems.length c.insts by omega]at h1
 exact⟨h1,h3⟩
theorem J8p {cs:List Cls} (h:mokS cs=true):∀(f k:Nat) (c:Cls),k<f→cs[k]? = some c→(cellsS cs)[k]? = some ((rstF cs f k).length:Int)
 |0,k,c,hk,_=>by omega
 |f+1,k,c,hk,hx=>by
  obtain⟨h1,h2⟩:=J5T h hx
  have hg:=(J0v h k c hx).2.1
  rw[h1]
  simp only[rstF,hx,List.length_append]
  rw[J43 (F:=fun g=>rstF cs f g.toNat) c.insts c.mems.length fun g hgm=>?_]
  ·simp
  ·obtain⟨g0,g1⟩:=hg g hgm
   have hlt:g.toNat<cs.length:=by have:=(List.getElem?_eq_some_iff.1 hx).1;omega
   have:=J8p h f g.toNat cs[g.toNat] (by omega) (List.getElem?_eq_getElem hlt)
   rw[this];rfl
end Go.Pm
/- Part of the proof: Sg5. -/
namespace Go.Pm
open Go.Proofs
theorem Ja3 {ds:List Cls} {Z:List Int} {m:Nat} {c:Cls} {l:List Sm} {T:List Br} (h:Spell l T):(∀s∈l,okSt ds Z m c s)→okL ds Z m c T:=by
 induction h with
 |nil=>intro _;trivial
 |leaf h4 h5 h6 h ih=>
  intro hs
  simp only[okL,okB]
  exact⟨⟨hs _ (by simp),trivial,trivial⟩,ih fun s hm=>hs s (by simp[hm])⟩
 |cond h4 h5 h6 hy hn h ih1 ih2 ih3=>
  intro hs
  simp only[okL,okB]
  exact⟨⟨hs _ (by simp),ih1 fun s hm=>hs s (by simp[hm]),ih2 fun s hm=>hs s (by simp[hm])⟩,ih3 fun s hm=>hs s (by simp[hm])⟩
theorem Jbb {l:List Sm} {T:List Br} (h:Spell l T):brsN T≤l.length:=by
 induction h with
 |nil=>exact Nat.le_refl _
 |leaf h4 h5 h6 h ih=>simp only[brsN,brN,List.length_cons];omega
 |cond h4 h5 h6 hy hn h ih1 ih2 ih3=>simp only[brsN,brN,List.length_cons,List.length_append];omega
theorem J7o {Z:List Int}:∀(l:List Int) (n:Nat),(∀g∈l,0≤nth Z g.toNat)→instSum Z n l=((n+(l.map fun g=>(nth Z g.toNat).toNat).sum:Nat):Int)
 |[],n,_=>by simp[instSum]
 |g::l,n,h=>by
  have hg:=h g (by simp)
  have e:(Z[g.toNat]?).getD 0=((nth Z g.toNat).toNat:Int):=by
   have:nth Z g.toNat=(Z[g.toNat]?).getD 0:=by unfold nth;rw[List.getD_eq_getElem?_getD]
   rw[←this];omega
  simp only[instSum,List.map_cons,List.sum_cons]
  rw[e,show((n:Int)+((nth Z g.toNat).toNat:Int))=((n+(nth Z g.toNat).toNat:Nat):Int) by omega,J7o l _ fun x hx=>h x (by simp[hx])]
  congr 1;omega
theorem J6R (f:Int→Nat) (l:List Int) (i:Nat):((l.take i).map f).sum≤(l.map f).sum:=by
 rw[←List.take_append_drop i l,List.map_append,List.sum_append,List.take_append_drop]
 omega
def zc (cs:List Cls) (k:Nat):Nat:=(rstF cs (k+1) k).length
theorem J4X {cs:List Cls} (h:mokS cs=true) {k:Nat} {c:Cls} (hx:cs[k]? = some c):(cellsS cs)[k]? = some ((zc cs k:Nat):Int):=J8p h (k+1) k c (by omega) hx
theorem J6b {cs:List Cls} (h:mokS cs=true) {k:Nat} {c:Cls} (hx:cs[k]? = some c):classS cs k c=true:=by
 unfold mokS at h
 split at h
 ·cases h
 split at h
 ·cases h
 ·rename_i h2
  exact(J4J cs).1 (by simpa using h2) k c hx
theorem J5z {cs:List Cls} {k:Nat} {c:Cls} (h:classS cs k c=true):(nmsC c).Nodup∧∃F,mapOf c F:=by
 obtain⟨h1,h2,h3,h4,h5,h6⟩:=(J1g cs k c).1 h
 have hv:=(J62 (nmsC c)).1 h4
 obtain⟨F,_,hF⟩:=(J8D c).1 ⟨hv.1,hv.2,fun x hx=>(J7s x).1 (List.all_eq_true.1 h5 x hx)⟩
 exact⟨hv.2,F,hF⟩
theorem J2R {α:Type} {w:α→Nat} {l:List α} {n:Nat} (h:wL w l≤n):l.length≤n:=by unfold wL at h;omega
theorem J6v {cs:List Cls} (hw:wL wCls cs≤1048576) (h:mokS cs=true):GoodMM cs (cellsS cs):=by
 intro k c hx
 have hcl:=J6b h hx
 obtain⟨hnd,F,hF⟩:=J5z hcl
 obtain⟨h1,h2,h3,h4,h5,h6,h7,h8,h9,h10⟩:=(J1g cs k c).1 hcl
 have hins:∀g∈c.insts,0≤g∧g<(k:Int):=(J0v h k c hx).2.1
 have hk:k<cs.length:=(List.getElem?_eq_some_iff.1 hx).1
 have hz:∀g∈c.insts,∃d,cs[g.toNat]? = some d∧(cellsS cs)[g.toNat]? = some ((zc cs g.toNat:Nat):Int):=fun g hg=>by
  obtain⟨g0,g1⟩:=hins g hg
  have hd:cs[g.toNat]? = some cs[g.toNat]:=List.getElem?_eq_getElem (by omega)
  exact⟨_,hd,J4X h hd⟩
 have hnn:∀g∈c.insts,0≤nth (cellsS cs) g.toNat:=fun g hg=>by
  obtain⟨d,_,e⟩:=hz g hg
  rw[J1A e];omega
 obtain⟨r1,r2⟩:=J5T h hx
 have hzk:=J4X h hx
 rw[r1]at hzk
 have hsum:=J7o (Z:=cellsS cs) c.insts c.mems.length hnn
 have htot:zc cs k=c.mems.length+(c.insts.map fun g=>(nth (cellsS cs) g.toNat).toNat).sum:=by
  have:=Option.some.inj hzk
  omega
 have hfrm:∀i,fromZ (cellsS cs) c i≤zc cs k:=fun i=>by
  have:=J6R (fun g=>(nth (cellsS cs) g.toNat).toNat) c.insts i
  unfold fromZ;omega
 obtain⟨R,hR⟩:=(J0v h k c hx).1
 have hsp:=JJ hR
 have hfor:forI c=R:=by unfold forI;rw[hR];rfl
 have hwc:wCls c≤1048576:=by have:=JE (w:=wCls) (List.mem_of_getElem? hx);simp only[wL]at hw;omega
 have hwb:wL wSm c.body≤1048576:=by unfold wCls at hwc;omega
 have hwi:wL wSlt c.ins≤1048576:=by unfold wCls at hwc;omega
 have hwo:wL wSlt c.outs≤1048576:=by unfold wCls at hwc;omega
 have hwn:wL wNum0 c.insts≤1048576:=by unfold wCls at hwc;omega
 refine⟨zc cs k,J4X h hx,by rw[htot];omega,by have:=Option.some.inj hzk;omega,fun i _=>hfrm i,fun g hg=>?_,?_,by rw[hfor];have:=Jbb hsp;have:=J2R hwb;omega,J2R hwi,J2R hwo,J2R hwn⟩
 ·obtain⟨d,_,e⟩:=hz g hg
  exact⟨g.toNat,_,by have:=(hins g hg).1;omega,e⟩
 ·rw[hfor]
  refine Ja3 hsp fun s hs=>?_
  have hst:=List.all_eq_true.1 h8 s hs
  have hws:wSm s≤1048576:=by have:=JE (w:=wSm) hs;simp only[wL]at hwb;omega
  unfold stmS at hst
  have q1:¬c1 s=true:=fun e=>by rw[if_pos e]at hst;cases hst
  rw[if_neg q1]at hst
  have q2:¬c2 s=true:=fun e=>by rw[if_pos e]at hst;cases hst
  rw[if_neg q2]at hst
  have q3:¬c3 s=true:=fun e=>by rw[if_pos e]at hst;cases hst
  rw[if_neg q3]at hst
  have q4:¬c4 s=true:=fun e=>by rw[if_pos e]at hst;cases hst
  rw[if_neg q4]at hst
  refine⟨fun k1=>?_,fun k2=>?_,fun k3=>?_⟩
  ·rw[if_pos k1,Bool.and_eq_true]at hst
   exact J2A hF hst.2
  ·rw[if_neg (by omega),if_pos k2]at hst
   simp only[Bool.and_eq_true,decide_eq_true_eq]at hst
   exact⟨J2A hF hst.2,hst.1.1,hst.1.2⟩
  ·rw[if_neg (by omega),if_neg (by omega),if_neg (by omega),if_neg (by omega),if_pos k3]at hst
   split at hst
   ·cases hst
   rename_i hpos
   have hp0:0≤s.pos∧s.pos<(c.insts.length:Int):=by omega
   obtain⟨p,hp⟩:∃p:Nat,s.pos=(p:Int):=⟨s.pos.toNat,by omega⟩
   have hpl:p<c.insts.length:=by omega
   rw[hp,Int.toNat_natCast]at hst
   obtain⟨g,hg⟩:∃g,c.insts[p]? = some g:=⟨_,List.getElem?_eq_getElem hpl⟩
   obtain⟨g0,g1⟩:=hins g (List.mem_of_getElem? hg)
   obtain⟨d,hd,hzd⟩:=hz g (List.mem_of_getElem? hg)
   rw[hg,Option.bind_some,hd]at hst
   simp only at hst
   split at hst
   ·rename_i hlen
    simp only[Bool.and_eq_true]at hst
    have hargs:=List.all_eq_true.1 hst.2
    have hgn:g=((g.toNat:Nat):Int):=by omega
    refine⟨fun a ha=>J2A hF (hargs a ha),?_,?_,p,g.toNat,zc cs g.toNat,d,hp,by rw[hg];exact congrArg some hgn,?_,hzd,?_,hlen.2,hlen.1⟩
    ·unfold wSm at hws;have:=J2R (w:=wL wItm) (l:=s.args) (n:=1048576) (by omega);exact this
    ·unfold wSm at hws;exact J2R (w:=wStr) (l:=s.outs) (n:=1048576) (by omega)
    ·rw[List.getElem?_take,if_pos (by omega)];exact hd
    ·have:=J4F (Z:=cellsS cs) (c:=c) (i:=p) (g:=g.toNat) (z:=zc cs g.toNat) (by rw[hg];exact congrArg some hgn) hzd
     have:=hfrm (p+1)
     omega
   ·cases hst
end Go.Pm
