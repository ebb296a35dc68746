/- Part of the proof: Mk2. -/
import Derived.Test.YtdjanhhljinokaaGreatDoorT14
import Derived.Test.YtdjanhhljinokaaGreatDoorT12
import Derived.Test.YtdjanhhljinokaaGreatDoorT16
set_option linter.unusedVariables false
set_option linter.unusedSimpArgs false
namespace Go.Pm
attribute [local irreducible] AR Ok inBlock andThen endQ aoper
set_option maxHeartbeats 1000000
open Go.Proofs
theorem JX (k:Int) (h1:1≤k) (h2:k≤1099511627776):PFun X 74 [vi k] (vs (markT k)):=by
 have e0:decide (k≤0)=false:=J1 (by omega)
 obtain⟨n,rfl⟩:∃n:Nat,k=(n:Int):=⟨k.toNat,by omega⟩
 refine Jj Tryz.func74 rfl (by decide) Tryz.ntmps74 Tryz.results74 (by simp) rfl rfl ?_
 repeat' first|refine Z1 ?_|refine Z2 ?_|refine Zo ?_|refine J5 ?_|refine Zq ?_|refine J4 ?_|refine J7 ?_|refine J3 ?_
 refine Jo (ι:=Nat×ByteArray) (fun x_=>envL [(0,vi x_.1),(3,vs x_.2)]) (fun x_=>stL []) (fun x_=>digs x_.1++x_.2=itoaB (n:Int)∧x_.1≤n) (fun x_=>x_.1) (n,B []) (⟨by rw[JbI];unfold digs;rw[if_neg (by omega)],Nat.le_refl _⟩) (Jg rfl ⟨.refl _,.refl _,trivial⟩ trivial) (fun _=>Nat.le_refl 0) ?_
 rintro⟨k,u⟩ ⟨i1,i2⟩
 simp only at i1 i2
 have hz:=J9i (n:Int) (by omega) (by omega)
 have hu:u.size≤21:=by have:=congrArg ByteArray.size i1;rw[ByteArray.size_append]at this;omega
 by_cases hk:0<k
 ·have ek:decide (0<(k:Int))=true:=J0 (by omega)
  have q1:(k:Int).tdiv 10=((k / 10:Nat):Int):=by rw[Int.tdiv_eq_ediv_of_nonneg (by omega)];omega
  have q2:(k:Int).tmod 10=((k % 10:Nat):Int):=by rw[Int.tmod_eq_emod_of_nonneg (by omega)];omega
  have q3:IntKind.i64.wrap ((k:Int).tdiv 10)=((k / 10:Nat):Int):=by rw[q1];exact J3Q (by omega) (by omega)
  have hb:byteRows (B [UInt8.ofNat (48+k % 10)])=[[.d (.s (.int .u8 (IntKind.u8.wrap (IntKind.i64.wrap (48+(k:Int).tmod 10)))))]]:=by
   rw[q2,J3Q (by omega) (by omega)]
   have hm:k % 10<10:=Nat.mod_lt _ (by decide)
   generalize k % 10=m at hm
   match m,hm with|0,_=>rfl|1,_=>rfl|2,_=>rfl|3,_=>rfl|4,_=>rfl|5,_=>rfl|6,_=>rfl|7,_=>rfl|8,_=>rfl|9,_=>rfl
  have hz2:(B [UInt8.ofNat (48+k % 10)]++u).size≤9223372036854775807:=by
   rw[ByteArray.size_append]
   have:(B [UInt8.ofNat (48+k % 10)]).size=1:=rfl
   omega
  repeat' first|refine Up (w:=B [UInt8.ofNat (48+k % 10)]) (i:=0) (v:=0) rfl (by rw[hb];rfl) ?_|refine Z1 ?_|refine Z2 ?_|refine Z3 ?_|refine Z5 ?_|refine Ycv ?_|refine Yw (sz:=1) ?_|refine Ul (a:=B [UInt8.ofNat (48+k % 10)]) (b:=u) (hb:=hz2) ?_|refine Zh ?_|refine Zo ?_|refine J5 ?_|refine Jd ?_|refine Zp ?_|refine J4 ?_|refine J7 ?_|refine J3 ?_|refine J6 ?_
  rw[q3]
  exact⟨(k / 10,B [UInt8.ofNat (48+k % 10)]++u),⟨by rw[←J9g,←J8y hk];exact i1,Nat.le_trans (Nat.div_le_self _ _) i2⟩,by(try simp only);omega,Jh (Nat.zero_le _) ⟨⟨rfl,rfl⟩,⟨rfl,rfl⟩,trivial⟩ trivial⟩
 ·have ek:decide (0<(k:Int))=false:=J1 (by omega)
  have:k=0:=by omega
  subst this
  have i1:u=itoaB (n:Int):=by rw[←i1];unfold digs;rw[if_pos rfl,J9k]
  subst i1
  repeat' first|refine Z1 ?_|refine Z2 ?_|refine Z5 ?_|refine Ul (a:=B [109]) (b:=itoaB (n:Int)) (hb:=by rw[ByteArray.size_append];have:(B [109]).size=1:=rfl;omega) ?_|refine Zo ?_|refine J5 ?_|refine Zq ?_|refine Jf ?_|refine J9 ?_|refine J3 ?_|refine Jb ?_|refine Zv ?_|refine Zt ?_
  rfl
end Go.Pm
/- Part of the proof: Mkm. -/
namespace Go.Pm
attribute [local irreducible] AR Ok inBlock andThen endQ aoper
set_option maxHeartbeats 2000000
open Go.Proofs
theorem J1Z (l:List (ByteArray)) (k:Int) (h1:1≤k) (h2:k+4*(wL (wStr) l:Int)≤1099511627776) {u:Value} {τ:FH} {L:List (Sh×D×Value)} (hT:Tr τ ((.im 9 shStr,.im (l.map eStr),u)::L)):
  BFun X 76 [.d (.s u),vi k] τ fun A τ'=>A=.ret (vi (mkL mkStr l k).2)∧Tr τ' ((.im 9 shStr,.im ((mkL mkStr l k).1.map eStr),u)::L):=by
 refine BFun.open hT rfl rfl ⟨_,Tryz.func76,by decide,rfl⟩ (by rw[List.length_map,List.length_map,J0d]) ?_
 intro V0 τ0 ha hT0
 rw[List.length_map]
 refine Jx Tryz.func76 rfl (by decide) Tryz.ntmps76 Tryz.results76 (by simp) ?_
 repeat' first|refine Z1 ?_|refine Z2 ?_|refine Zo ?_|refine J5 ?_|refine J4 ?_
 refine Jo (ι:=Nat×List (ByteArray)×Int×List (List Value)×FH) (fun x_=>envL [(0,.sl 1 1 0 l.length),(1,vi x_.2.2.1),(5,vi x_.1)]) (fun x_=>stL [some (.box x_.2.2.2.2),some (.row 1 9 1 (exR x_.2.2.2.1))]) (fun x_=>x_.1≤l.length∧x_.2.1.length=x_.1∧1≤x_.2.2.1∧(mkL mkStr (l.drop x_.1) x_.2.2.1).2=(mkL mkStr l k).2∧x_.2.1++(mkL mkStr (l.drop x_.1) x_.2.2.1).1=(mkL mkStr l k).1∧agrs shStr ((x_.2.1++l.drop x_.1).map eStr) x_.2.2.2.1∧Tr x_.2.2.2.2 (subss shStr ((x_.2.1++l.drop x_.1).map eStr) x_.2.2.2.1++L)∧x_.2.2.1+4*(wL (wStr) (l.drop x_.1):Int)≤1099511627776) (fun x_=>l.length-x_.1) (0,[],k,V0,τ0) (⟨Nat.zero_le _,rfl,h1,rfl,rfl,ha,hT0,h2⟩) (Jg rfl ⟨.refl _,.refl _,.refl _,trivial⟩ ⟨⟨rfl,_,rfl,rfl⟩,⟨rfl,_,rfl,rfl,rfl,rfl,rfl⟩,trivial⟩) (fun _=>Nat.le_refl 2) ?_
 rintro⟨i,d,q,V,τ1⟩ ⟨i1,i2,i3,i4,i5,i6,i7,i8⟩
 simp only at i1 i2 i3 i4 i5 i6 i7 i8
 have hll:l.length≤wL (wStr) l:=Nat.le_add_right _ _
 show Ok _ _ _ _ (envL [(0,.sl 1 1 0 l.length),(1,vi q),(5,vi i)]) (stL [some (.box τ1),some (.row 1 9 1 (exR V))])
 rcases hx:l[i]? with _|x
 ·have hle:=Jk hx
  have ek:decide ((i:Int)<((l.length-0:Nat):Int))=false:=J1 (by omega)
  rw[Jm hx]at i4 i5 i6 i7
  simp only[mkL,List.append_nil]at i4 i5 i6 i7
  subst i5
  repeat' first|refine Z1 ?_|refine Z2 ?_|refine Zo ?_|refine J5 ?_|refine Zq ?_|refine Jf ?_|refine J9 ?_|refine J3 ?_|refine Jb ?_|refine Zv ?_|refine Zt ?_
  exact⟨V,τ1,congrArg (fun v=>AEnd.ret (vi v)) i4,rfl,rfl,i6,i7⟩
 ·obtain⟨hd,hlt⟩:=Jc hx
  have ek:decide ((i:Int)<((l.length-0:Nat):Int))=true:=J0 (by omega)
  rw[hd]at i4 i5 i6 i7 i8
  rw[J00]at i8
  simp only[mkL]at i4 i5
  rw[List.map_append]at i6 i7
  obtain⟨A,r,B,rfl,hA,a1,a2,a3⟩:=J0M (A:=d.map eStr) (B:=(l.drop (i+1)).map eStr) (x:=eStr x) i6
  have hA':A.length=i:=by rw[List.length_map]at hA;omega
  have hcx:=cntS x q
  have n3:1≤(mkStr x q).2:=by omega
  have n8:(mkStr x q).2+4*(wL (wStr) (l.drop (i+1)):Int)≤1099511627776:=by omega
  have n5:(d++[(mkStr x q).1])++(mkL mkStr (l.drop (i+1)) (mkStr x q).2).1=(mkL mkStr l k).1:=by rw[List.append_assoc];exact i5
  obtain⟨r0,rfl⟩:=len1 (J0k a2).2
  have n6:agrs shStr (((d++[(mkStr x q).1])++l.drop (i+1)).map eStr) (A++[.string (markT (q))]::B):=by
   rw[List.append_assoc,List.map_append]
   exact J07 a1 ⟨by simp[agr,eStr,mkStr],a3⟩
  have n7:Tr τ1 (subss shStr (((d++[(mkStr x q).1])++l.drop (i+1)).map eStr) (A++[.string (markT (q))]::B)++L):=by
   rw[JH J1f]at i7 ⊢;exact i7
  repeat' first|refine Z1 ?_|refine Z2 ?_|refine Z3 ?_|refine Z5 ?_|refine Jv rfl rfl hlt rfl rfl rfl rfl ?_|refine Zc (JX (q) (by omega) (by omega)) ?_|refine J14 (A:=A) (B:=B) (r:=[r0]) (r':=[.string (markT (q))]) (c:=0) hA' rfl rfl rfl rfl rfl rfl rfl rfl ?_|refine Zf ?_|refine Zo ?_|refine J5 ?_|refine Jd ?_|refine Zp ?_|refine J4 ?_|refine J7 ?_|refine J3 ?_|refine J6 ?_
  exact⟨(i+1,d++[(mkStr x q).1],(mkStr x q).2,A++[.string (markT (q))]::B,τ1),⟨hlt,by simp[i2],n3,i4,n5,n6,n7,n8⟩,by(try simp only);omega,Jh (Nat.le_of_ble_eq_true rfl) ⟨⟨rfl,rfl⟩,⟨rfl,rfl⟩,⟨rfl,rfl⟩,trivial⟩ ⟨⟨rfl,trivial⟩,⟨rfl,Je rfl,J0l _ _⟩,trivial⟩⟩
theorem J3n (l:List (Int)) (k:Int) (h1:1≤k) (h2:k+4*(wL (wNum0) l:Int)≤1099511627776) {u:Value} {τ:FH} {L:List (Sh×D×Value)} (hT:Tr τ ((.im 3 shNum,.im (l.map eNum),u)::L)):
  BFun X 15 [.d (.s u),vi k] τ fun A τ'=>A=.ret (vi (mkL mkNum l k).2)∧Tr τ' ((.im 3 shNum,.im ((mkL mkNum l k).1.map eNum),u)::L):=by
 refine BFun.open hT rfl rfl ⟨_,Tryz.func15,by decide,rfl⟩ (by rw[List.length_map,List.length_map,J0d]) ?_
 intro V0 τ0 ha hT0
 rw[List.length_map]
 refine Jx Tryz.func15 rfl (by decide) Tryz.ntmps15 Tryz.results15 (by simp) ?_
 repeat' first|refine Z1 ?_|refine Z2 ?_|refine Zo ?_|refine J5 ?_|refine J4 ?_
 refine Jo (ι:=Nat×List (Int)×Int×List (List Value)×FH) (fun x_=>envL [(0,.sl 1 1 0 l.length),(1,vi x_.2.2.1),(5,vi x_.1)]) (fun x_=>stL [some (.box x_.2.2.2.2),some (.row 1 3 1 (exR x_.2.2.2.1))]) (fun x_=>x_.1≤l.length∧x_.2.1.length=x_.1∧1≤x_.2.2.1∧(mkL mkNum (l.drop x_.1) x_.2.2.1).2=(mkL mkNum l k).2∧x_.2.1++(mkL mkNum (l.drop x_.1) x_.2.2.1).1=(mkL mkNum l k).1∧agrs shNum ((x_.2.1++l.drop x_.1).map eNum) x_.2.2.2.1∧Tr x_.2.2.2.2 (subss shNum ((x_.2.1++l.drop x_.1).map eNum) x_.2.2.2.1++L)∧x_.2.2.1+4*(wL (wNum0) (l.drop x_.1):Int)≤1099511627776) (fun x_=>l.length-x_.1) (0,[],k,V0,τ0) (⟨Nat.zero_le _,rfl,h1,rfl,rfl,ha,hT0,h2⟩) (Jg rfl ⟨.refl _,.refl _,.refl _,trivial⟩ ⟨⟨rfl,_,rfl,rfl⟩,⟨rfl,_,rfl,rfl,rfl,rfl,rfl⟩,trivial⟩) (fun _=>Nat.le_refl 2) ?_
 rintro⟨i,d,q,V,τ1⟩ ⟨i1,i2,i3,i4,i5,i6,i7,i8⟩
 simp only at i1 i2 i3 i4 i5 i6 i7 i8
 have hll:l.length≤wL (wNum0) l:=Nat.le_add_right _ _
 show Ok _ _ _ _ (envL [(0,.sl 1 1 0 l.length),(1,vi q),(5,vi i)]) (stL [some (.box τ1),some (.row 1 3 1 (exR V))])
 rcases hx:l[i]? with _|x
 ·have hle:=Jk hx
  have ek:decide ((i:Int)<((l.length-0:Nat):Int))=false:=J1 (by omega)
  rw[Jm hx]at i4 i5 i6 i7
  simp only[mkL,List.append_nil]at i4 i5 i6 i7
  subst i5
  repeat' first|refine Z1 ?_|refine Z2 ?_|refine Zo ?_|refine J5 ?_|refine Zq ?_|refine Jf ?_|refine J9 ?_|refine J3 ?_|refine Jb ?_|refine Zv ?_|refine Zt ?_
  exact⟨V,τ1,congrArg (fun v=>AEnd.ret (vi v)) i4,rfl,rfl,i6,i7⟩
 ·obtain⟨hd,hlt⟩:=Jc hx
  have ek:decide ((i:Int)<((l.length-0:Nat):Int))=true:=J0 (by omega)
  rw[hd]at i4 i5 i6 i7 i8
  rw[J00]at i8
  simp only[mkL]at i4 i5
  rw[List.map_append]at i6 i7
  obtain⟨A,r,B,rfl,hA,a1,a2,a3⟩:=J0M (A:=d.map eNum) (B:=(l.drop (i+1)).map eNum) (x:=eNum x) i6
  have hA':A.length=i:=by rw[List.length_map]at hA;omega
  have hcx:=cntN x q
  have n3:1≤(mkNum x q).2:=by omega
  have n8:(mkNum x q).2+4*(wL (wNum0) (l.drop (i+1)):Int)≤1099511627776:=by omega
  have n5:(d++[(mkNum x q).1])++(mkL mkNum (l.drop (i+1)) (mkNum x q).2).1=(mkL mkNum l k).1:=by rw[List.append_assoc];exact i5
  obtain⟨r0,rfl⟩:=len1 (J0k a2).2
  have n6:agrs shNum (((d++[(mkNum x q).1])++l.drop (i+1)).map eNum) (A++[.int .i64 (q)]::B):=by
   rw[List.append_assoc,List.map_append]
   exact J07 a1 ⟨by simp[agr,eNum,mkNum],a3⟩
  have n7:Tr τ1 (subss shNum (((d++[(mkNum x q).1])++l.drop (i+1)).map eNum) (A++[.int .i64 (q)]::B)++L):=by
   rw[JH J1k]at i7 ⊢;exact i7
  repeat' first|refine Z1 ?_|refine Z2 ?_|refine Z3 ?_|refine Z5 ?_|refine Jv rfl rfl hlt rfl rfl rfl rfl ?_|refine J14 (A:=A) (B:=B) (r:=[r0]) (r':=[.int .i64 (q)]) (c:=0) hA' rfl rfl rfl rfl rfl rfl rfl rfl ?_|refine Zf ?_|refine Zo ?_|refine J5 ?_|refine Jd ?_|refine Zp ?_|refine J4 ?_|refine J7 ?_|refine J3 ?_|refine J6 ?_
  exact⟨(i+1,d++[(mkNum x q).1],(mkNum x q).2,A++[.int .i64 (q)]::B,τ1),⟨hlt,by simp[i2],n3,i4,n5,n6,n7,n8⟩,by(try simp only);omega,Jh (Nat.le_of_ble_eq_true rfl) ⟨⟨rfl,rfl⟩,⟨rfl,rfl⟩,⟨rfl,rfl⟩,trivial⟩ ⟨⟨rfl,trivial⟩,⟨rfl,Je rfl,J0l _ _⟩,trivial⟩⟩
theorem J2M (l:List (Itm)) (k:Int) (h1:1≤k) (h2:k+4*(wL (wItm) l:Int)≤1099511627776) {u:Value} {τ:FH} {L:List (Sh×D×Value)} (hT:Tr τ ((.im 156 shItm,.im (l.map eItm),u)::L)):
  BFun X 126 [.d (.s u),vi k] τ fun A τ'=>A=.ret (vi (mkL mkItm l k).2)∧Tr τ' ((.im 156 shItm,.im ((mkL mkItm l k).1.map eItm),u)::L):=by
 refine BFun.open hT rfl rfl ⟨_,Tryz.func126,by decide,rfl⟩ (by rw[List.length_map,List.length_map,J0d]) ?_
 intro V0 τ0 ha hT0
 rw[List.length_map]
 refine Jx Tryz.func126 rfl (by decide) Tryz.ntmps126 Tryz.results126 (by simp) ?_
 repeat' first|refine Z1 ?_|refine Z2 ?_|refine Zo ?_|refine J5 ?_|refine J4 ?_
 refine Jo (ι:=Nat×List (Itm)×Int×List (List Value)×FH) (fun x_=>envL [(0,.sl 1 1 0 l.length),(1,vi x_.2.2.1),(5,vi x_.1)]) (fun x_=>stL [some (.box x_.2.2.2.2),some (.row 1 156 3 (exR x_.2.2.2.1))]) (fun x_=>x_.1≤l.length∧x_.2.1.length=x_.1∧1≤x_.2.2.1∧(mkL mkItm (l.drop x_.1) x_.2.2.1).2=(mkL mkItm l k).2∧x_.2.1++(mkL mkItm (l.drop x_.1) x_.2.2.1).1=(mkL mkItm l k).1∧agrs shItm ((x_.2.1++l.drop x_.1).map eItm) x_.2.2.2.1∧Tr x_.2.2.2.2 (subss shItm ((x_.2.1++l.drop x_.1).map eItm) x_.2.2.2.1++L)∧x_.2.2.1+4*(wL (wItm) (l.drop x_.1):Int)≤1099511627776) (fun x_=>l.length-x_.1) (0,[],k,V0,τ0) (⟨Nat.zero_le _,rfl,h1,rfl,rfl,ha,hT0,h2⟩) (Jg rfl ⟨.refl _,.refl _,.refl _,trivial⟩ ⟨⟨rfl,_,rfl,rfl⟩,⟨rfl,_,rfl,rfl,rfl,rfl,rfl⟩,trivial⟩) (fun _=>Nat.le_refl 2) ?_
 rintro⟨i,d,q,V,τ1⟩ ⟨i1,i2,i3,i4,i5,i6,i7,i8⟩
 simp only at i1 i2 i3 i4 i5 i6 i7 i8
 have hll:l.length≤wL (wItm) l:=Nat.le_add_right _ _
 show Ok _ _ _ _ (envL [(0,.sl 1 1 0 l.length),(1,vi q),(5,vi i)]) (stL [some (.box τ1),some (.row 1 156 3 (exR V))])
 rcases hx:l[i]? with _|x
 ·have hle:=Jk hx
  have ek:decide ((i:Int)<((l.length-0:Nat):Int))=false:=J1 (by omega)
  rw[Jm hx]at i4 i5 i6 i7
  simp only[mkL,List.append_nil]at i4 i5 i6 i7
  subst i5
  repeat' first|refine Z1 ?_|refine Z2 ?_|refine Zo ?_|refine J5 ?_|refine Zq ?_|refine Jf ?_|refine J9 ?_|refine J3 ?_|refine Jb ?_|refine Zv ?_|refine Zt ?_
  exact⟨V,τ1,congrArg (fun v=>AEnd.ret (vi v)) i4,rfl,rfl,i6,i7⟩
 ·obtain⟨hd,hlt⟩:=Jc hx
  have ek:decide ((i:Int)<((l.length-0:Nat):Int))=true:=J0 (by omega)
  rw[hd]at i4 i5 i6 i7 i8
  rw[J00]at i8
  simp only[mkL]at i4 i5
  rw[List.map_append]at i6 i7
  obtain⟨A,r,B,rfl,hA,a1,a2,a3⟩:=J0M (A:=d.map eItm) (B:=(l.drop (i+1)).map eItm) (x:=eItm x) i6
  have hA':A.length=i:=by rw[List.length_map]at hA;omega
  have hcx:=cntI x q
  have n3:1≤(mkItm x q).2:=by omega
  have n8:(mkItm x q).2+4*(wL (wItm) (l.drop (i+1)):Int)≤1099511627776:=by omega
  have n5:(d++[(mkItm x q).1])++(mkL mkItm (l.drop (i+1)) (mkItm x q).2).1=(mkL mkItm l k).1:=by rw[List.append_assoc];exact i5
  obtain⟨r0,r1,r2,rfl⟩:=len3 (J0k a2).2
  have n6:agrs shItm (((d++[(mkItm x q).1])++l.drop (i+1)).map eItm) (A++[.int .i64 (q),.int .i64 (q+1),.string (markT (q+1+1))]::B):=by
   rw[List.append_assoc,List.map_append]
   exact J07 a1 ⟨by simp[agr,eItm,mkItm],a3⟩
  have n7:Tr τ1 (subss shItm (((d++[(mkItm x q).1])++l.drop (i+1)).map eItm) (A++[.int .i64 (q),.int .i64 (q+1),.string (markT (q+1+1))]::B)++L):=by
   rw[JH J1i]at i7 ⊢;exact i7
  repeat' first|refine Z1 ?_|refine Z2 ?_|refine Z3 ?_|refine Z5 ?_|refine Jv rfl rfl hlt rfl rfl rfl rfl ?_|refine Zc (JX (q+1+1) (by omega) (by omega)) ?_|refine J14 (A:=A) (B:=B) (r:=[r0,r1,r2]) (r':=[.int .i64 (q),r1,r2]) (c:=0) hA' rfl rfl rfl rfl rfl rfl rfl rfl ?_|refine J14 (A:=A) (B:=B) (r:=[.int .i64 (q),r1,r2]) (r':=[.int .i64 (q),.int .i64 (q+1),r2]) (c:=1) hA' rfl rfl rfl rfl rfl rfl rfl rfl ?_|refine J14 (A:=A) (B:=B) (r:=[.int .i64 (q),.int .i64 (q+1),r2]) (r':=[.int .i64 (q),.int .i64 (q+1),.string (markT (q+1+1))]) (c:=2) hA' rfl rfl rfl rfl rfl rfl rfl rfl ?_|refine Zf ?_|refine Zo ?_|refine J5 ?_|refine Jd ?_|refine Zp ?_|refine J4 ?_|refine J7 ?_|refine J3 ?_|refine J6 ?_
  exact⟨(i+1,d++[(mkItm x q).1],(mkItm x q).2,A++[.int .i64 (q),.int .i64 (q+1),.string (markT (q+1+1))]::B,τ1),⟨hlt,by simp[i2],n3,i4,n5,n6,n7,n8⟩,by(try simp only);omega,Jh (Nat.le_of_ble_eq_true rfl) ⟨⟨rfl,rfl⟩,⟨rfl,rfl⟩,⟨rfl,rfl⟩,trivial⟩ ⟨⟨rfl,trivial⟩,⟨rfl,Je rfl,J0l _ _⟩,trivial⟩⟩
theorem J2X (l:List (Slt)) (k:Int) (h1:1≤k) (h2:k+4*(wL (wSlt) l:Int)≤1099511627776) {u:Value} {τ:FH} {L:List (Sh×D×Value)} (hT:Tr τ ((.im 88 shSlt,.im (l.map eSlt),u)::L)):
  BFun X 75 [.d (.s u),vi k] τ fun A τ'=>A=.ret (vi (mkL mkSlt l k).2)∧Tr τ' ((.im 88 shSlt,.im ((mkL mkSlt l k).1.map eSlt),u)::L):=by
 refine BFun.open hT rfl rfl ⟨_,Tryz.func75,by decide,rfl⟩ (by rw[List.length_map,List.length_map,J0d]) ?_
 intro V0 τ0 ha hT0
 rw[List.length_map]
 refine Jx Tryz.func75 rfl (by decide) Tryz.ntmps75 Tryz.results75 (by simp) ?_
 repeat' first|refine Z1 ?_|refine Z2 ?_|refine Zo ?_|refine J5 ?_|refine J4 ?_
 refine Jo (ι:=Nat×List (Slt)×Int×List (List Value)×FH) (fun x_=>envL [(0,.sl 1 1 0 l.length),(1,vi x_.2.2.1),(5,vi x_.1)]) (fun x_=>stL [some (.box x_.2.2.2.2),some (.row 1 88 2 (exR x_.2.2.2.1))]) (fun x_=>x_.1≤l.length∧x_.2.1.length=x_.1∧1≤x_.2.2.1∧(mkL mkSlt (l.drop x_.1) x_.2.2.1).2=(mkL mkSlt l k).2∧x_.2.1++(mkL mkSlt (l.drop x_.1) x_.2.2.1).1=(mkL mkSlt l k).1∧agrs shSlt ((x_.2.1++l.drop x_.1).map eSlt) x_.2.2.2.1∧Tr x_.2.2.2.2 (subss shSlt ((x_.2.1++l.drop x_.1).map eSlt) x_.2.2.2.1++L)∧x_.2.2.1+4*(wL (wSlt) (l.drop x_.1):Int)≤1099511627776) (fun x_=>l.length-x_.1) (0,[],k,V0,τ0) (⟨Nat.zero_le _,rfl,h1,rfl,rfl,ha,hT0,h2⟩) (Jg rfl ⟨.refl _,.refl _,.refl _,trivial⟩ ⟨⟨rfl,_,rfl,rfl⟩,⟨rfl,_,rfl,rfl,rfl,rfl,rfl⟩,trivial⟩) (fun _=>Nat.le_refl 2) ?_
 rintro⟨i,d,q,V,τ1⟩ ⟨i1,i2,i3,i4,i5,i6,i7,i8⟩
 simp only at i1 i2 i3 i4 i5 i6 i7 i8
 have hll:l.length≤wL (wSlt) l:=Nat.le_add_right _ _
 show Ok _ _ _ _ (envL [(0,.sl 1 1 0 l.length),(1,vi q),(5,vi i)]) (stL [some (.box τ1),some (.row 1 88 2 (exR V))])
 rcases hx:l[i]? with _|x
 ·have hle:=Jk hx
  have ek:decide ((i:Int)<((l.length-0:Nat):Int))=false:=J1 (by omega)
  rw[Jm hx]at i4 i5 i6 i7
  simp only[mkL,List.append_nil]at i4 i5 i6 i7
  subst i5
  repeat' first|refine Z1 ?_|refine Z2 ?_|refine Zo ?_|refine J5 ?_|refine Zq ?_|refine Jf ?_|refine J9 ?_|refine J3 ?_|refine Jb ?_|refine Zv ?_|refine Zt ?_
  exact⟨V,τ1,congrArg (fun v=>AEnd.ret (vi v)) i4,rfl,rfl,i6,i7⟩
 ·obtain⟨hd,hlt⟩:=Jc hx
  have ek:decide ((i:Int)<((l.length-0:Nat):Int))=true:=J0 (by omega)
  rw[hd]at i4 i5 i6 i7 i8
  rw[J00]at i8
  simp only[mkL]at i4 i5
  rw[List.map_append]at i6 i7
  obtain⟨A,r,B,rfl,hA,a1,a2,a3⟩:=J0M (A:=d.map eSlt) (B:=(l.drop (i+1)).map eSlt) (x:=eSlt x) i6
  have hA':A.length=i:=by rw[List.length_map]at hA;omega
  have hcx:=cntSl x q
  have n3:1≤(mkSlt x q).2:=by omega
  have n8:(mkSlt x q).2+4*(wL (wSlt) (l.drop (i+1)):Int)≤1099511627776:=by omega
  have n5:(d++[(mkSlt x q).1])++(mkL mkSlt (l.drop (i+1)) (mkSlt x q).2).1=(mkL mkSlt l k).1:=by rw[List.append_assoc];exact i5
  obtain⟨r0,r1,rfl⟩:=len2 (J0k a2).2
  have n6:agrs shSlt (((d++[(mkSlt x q).1])++l.drop (i+1)).map eSlt) (A++[.string (markT (q)),.int .i64 (q+1)]::B):=by
   rw[List.append_assoc,List.map_append]
   exact J07 a1 ⟨by simp[agr,eSlt,mkSlt],a3⟩
  have n7:Tr τ1 (subss shSlt (((d++[(mkSlt x q).1])++l.drop (i+1)).map eSlt) (A++[.string (markT (q)),.int .i64 (q+1)]::B)++L):=by
   rw[JH J1l]at i7 ⊢;exact i7
  repeat' first|refine Z1 ?_|refine Z2 ?_|refine Z3 ?_|refine Z5 ?_|refine Jv rfl rfl hlt rfl rfl rfl rfl ?_|refine Zc (JX (q) (by omega) (by omega)) ?_|refine J14 (A:=A) (B:=B) (r:=[r0,r1]) (r':=[.string (markT (q)),r1]) (c:=0) hA' rfl rfl rfl rfl rfl rfl rfl rfl ?_|refine J14 (A:=A) (B:=B) (r:=[.string (markT (q)),r1]) (r':=[.string (markT (q)),.int .i64 (q+1)]) (c:=1) hA' rfl rfl rfl rfl rfl rfl rfl rfl ?_|refine Zf ?_|refine Zo ?_|refine J5 ?_|refine Jd ?_|refine Zp ?_|refine J4 ?_|refine J7 ?_|refine J3 ?_|refine J6 ?_
  exact⟨(i+1,d++[(mkSlt x q).1],(mkSlt x q).2,A++[.string (markT (q)),.int .i64 (q+1)]::B,τ1),⟨hlt,by simp[i2],n3,i4,n5,n6,n7,n8⟩,by(try simp only);omega,Jh (Nat.le_of_ble_eq_true rfl) ⟨⟨rfl,rfl⟩,⟨rfl,rfl⟩,⟨rfl,rfl⟩,trivial⟩ ⟨⟨rfl,trivial⟩,⟨rfl,Je rfl,J0l _ _⟩,trivial⟩⟩
theorem J4Y (l:List (List Itm)) (k:Int) (h1:1≤k) (h2:k+4*(wL (wL wItm) l:Int)≤1099511627776) {u:Value} {τ:FH} {L:List (Sh×D×Value)} (hT:Tr τ ((.im 91 shItms,.im (l.map eItms),u)::L)):
  BFun X 127 [.d (.s u),vi k] τ fun A τ'=>A=.ret (vi (mkL mkItms l k).2)∧Tr τ' ((.im 91 shItms,.im ((mkL mkItms l k).1.map eItms),u)::L):=by
 refine BFun.open hT rfl rfl ⟨_,Tryz.func127,by decide,rfl⟩ (by rw[List.length_map,List.length_map,J0d]) ?_
 intro V0 τ0 ha hT0
 rw[List.length_map]
 refine Jx Tryz.func127 rfl (by decide) Tryz.ntmps127 Tryz.results127 (by simp) ?_
 repeat' first|refine Z1 ?_|refine Z2 ?_|refine Zo ?_|refine J5 ?_|refine J4 ?_
 refine Jo (ι:=Nat×List (List Itm)×Int×List (List Value)×FH) (fun x_=>envL [(0,.sl 1 1 0 l.length),(1,vi x_.2.2.1),(5,vi x_.1)]) (fun x_=>stL [some (.box x_.2.2.2.2),some (.row 1 91 1 (exR x_.2.2.2.1))]) (fun x_=>x_.1≤l.length∧x_.2.1.length=x_.1∧1≤x_.2.2.1∧(mkL mkItms (l.drop x_.1) x_.2.2.1).2=(mkL mkItms l k).2∧x_.2.1++(mkL mkItms (l.drop x_.1) x_.2.2.1).1=(mkL mkItms l k).1∧agrs shItms ((x_.2.1++l.drop x_.1).map eItms) x_.2.2.2.1∧Tr x_.2.2.2.2 (subss shItms ((x_.2.1++l.drop x_.1).map eItms) x_.2.2.2.1++L)∧x_.2.2.1+4*(wL (wL wItm) (l.drop x_.1):Int)≤1099511627776) (fun x_=>l.length-x_.1) (0,[],k,V0,τ0) (⟨Nat.zero_le _,rfl,h1,rfl,rfl,ha,hT0,h2⟩) (Jg rfl ⟨.refl _,.refl _,.refl _,trivial⟩ ⟨⟨rfl,_,rfl,rfl⟩,⟨rfl,_,rfl,rfl,rfl,rfl,rfl⟩,trivial⟩) (fun _=>Nat.le_refl 2) ?_
 rintro⟨i,d,q,V,τ1⟩ ⟨i1,i2,i3,i4,i5,i6,i7,i8⟩
 simp only at i1 i2 i3 i4 i5 i6 i7 i8
 have hll:l.length≤wL (wL wItm) l:=Nat.le_add_right _ _
 show Ok _ _ _ _ (envL [(0,.sl 1 1 0 l.length),(1,vi q),(5,vi i)]) (stL [some (.box τ1),some (.row 1 91 1 (exR V))])
 rcases hx:l[i]? with _|x
 ·have hle:=Jk hx
  have ek:decide ((i:Int)<((l.length-0:Nat):Int))=false:=J1 (by omega)
  rw[Jm hx]at i4 i5 i6 i7
  simp only[mkL,List.append_nil]at i4 i5 i6 i7
  subst i5
  repeat' first|refine Z1 ?_|refine Z2 ?_|refine Zo ?_|refine J5 ?_|refine Zq ?_|refine Jf ?_|refine J9 ?_|refine J3 ?_|refine Jb ?_|refine Zv ?_|refine Zt ?_
  exact⟨V,τ1,congrArg (fun v=>AEnd.ret (vi v)) i4,rfl,rfl,i6,i7⟩
 ·obtain⟨hd,hlt⟩:=Jc hx
  have ek:decide ((i:Int)<((l.length-0:Nat):Int))=true:=J0 (by omega)
  rw[hd]at i4 i5 i6 i7 i8
  rw[J00]at i8
  simp only[mkL]at i4 i5
  rw[List.map_append]at i6 i7
  obtain⟨A,r,B,rfl,hA,a1,a2,a3⟩:=J0M (A:=d.map eItms) (B:=(l.drop (i+1)).map eItms) (x:=eItms x) i6
  have hA':A.length=i:=by rw[List.length_map]at hA;omega
  have hcx:=cntIs x q
  have n3:1≤(mkItms x q).2:=by omega
  have n8:(mkItms x q).2+4*(wL (wL wItm) (l.drop (i+1)):Int)≤1099511627776:=by omega
  have n5:(d++[(mkItms x q).1])++(mkL mkItms (l.drop (i+1)) (mkItms x q).2).1=(mkL mkItms l k).1:=by rw[List.append_assoc];exact i5
  obtain⟨r0,rfl⟩:=len1 (J0k a2).2
  rw[JY hA]at i7
  have t0:Tr τ1 (([(.im 156 shItm,.im (x.map eItm),r0)]:List (Sh×D×Value))++(subss shItms (d.map eItms) A++(subss shItms ((l.drop (i+1)).map eItms) B++L))):=by
   refine i7.perm ?_
   rw[List.append_assoc]
   show List.Perm (_++((([(.im 156 shItm,.im (x.map eItm),r0)]:List (Sh×D×Value))++_)++_)) _
   rw[List.append_assoc]
   exact List.perm_append_comm_assoc _ _ _
  have c0:=cntL cntI x (q)
  have p0:=t0
  repeat' first|refine Z1 ?_|refine Z2 ?_|refine Z5 ?_|refine Jv rfl rfl hlt rfl rfl rfl rfl ?_|refine J1m (A:=A) (B:=B) (r:=[r0]) (v:=r0) (c:=0) hA' rfl rfl rfl rfl rfl rfl ?_|refine Yxx ((J2M x (q) (by omega) (by omega) p0).at (i:=0) rfl) ?_|refine Zo ?_|refine J5 ?_|refine Jd ?_|refine Zp ?_|refine J4 ?_|refine J7 ?_|refine J3 ?_
  rintro Z σ2 ⟨τ2,⟨rfl,t1⟩,rfl⟩
  refine⟨_,rfl,?_⟩
  have n6:agrs shItms (((d++[(mkItms x q).1])++l.drop (i+1)).map eItms) (A++[r0]::B):=by
   rw[List.append_assoc,List.map_append]
   exact J07 a1 ⟨by simp[agr,eItms,mkItms],a3⟩
  have n7:Tr τ2 (subss shItms (((d++[(mkItms x q).1])++l.drop (i+1)).map eItms) (A++[r0]::B)++L):=by
   rw[List.append_assoc,List.map_append,JY hA]
   refine t1.perm ?_
   refine List.Perm.trans (List.Perm.append_right (subss shItms (d.map eItms) A++(subss shItms ((l.drop (i+1)).map eItms) B++L)) (show List.Perm (α:=Sh×D×Value) [(.im 156 shItm,.im ((mkL mkItm x (q)).1.map eItm),r0)] [(.im 156 shItm,.im ((mkL mkItm x (q)).1.map eItm),r0)]from List.reverse_perm (α:=Sh×D×Value) [(.im 156 shItm,.im ((mkL mkItm x (q)).1.map eItm),r0)])) ?_
   rw[List.append_assoc]
   show List.Perm _ (_++((([(.im 156 shItm,.im ((mkL mkItm x (q)).1.map eItm),r0)]:List (Sh×D×Value))++_)++_))
   rw[List.append_assoc]
   exact List.perm_append_comm_assoc _ _ _
  repeat' first|refine Z1 ?_|refine Z2 ?_|refine Z3 ?_|refine Z5 ?_|refine Zf ?_|refine Jd ?_|refine J3 ?_|refine J6 ?_
  exact⟨(i+1,d++[(mkItms x q).1],(mkItms x q).2,A++[r0]::B,τ2),⟨hlt,by simp[i2],n3,i4,n5,n6,n7,n8⟩,by(try simp only);omega,Jh (Nat.le_of_ble_eq_true rfl) ⟨⟨rfl,rfl⟩,⟨rfl,rfl⟩,⟨rfl,rfl⟩,trivial⟩ ⟨⟨rfl,trivial⟩,⟨rfl,Je rfl,J0l _ _⟩,trivial⟩⟩
theorem J6Q (l:List (Sm)) (k:Int) (h1:1≤k) (h2:k+4*(wL (wSm) l:Int)≤1099511627776) {u:Value} {τ:FH} {L:List (Sh×D×Value)} (hT:Tr τ ((.im 96 shSm,.im (l.map eSm),u)::L)):
  BFun X 77 [.d (.s u),vi k] τ fun A τ'=>A=.ret (vi (mkL mkSm l k).2)∧Tr τ' ((.im 96 shSm,.im ((mkL mkSm l k).1.map eSm),u)::L):=by
 refine BFun.open hT rfl rfl ⟨_,Tryz.func77,by decide,rfl⟩ (by rw[List.length_map,List.length_map,J0d]) ?_
 intro V0 τ0 ha hT0
 rw[List.length_map]
 refine Jx Tryz.func77 rfl (by decide) Tryz.ntmps77 Tryz.results77 (by simp) ?_
 repeat' first|refine Z1 ?_|refine Z2 ?_|refine Zo ?_|refine J5 ?_|refine J4 ?_
 refine Jo (ι:=Nat×List (Sm)×Int×List (List Value)×FH) (fun x_=>envL [(0,.sl 1 1 0 l.length),(1,vi x_.2.2.1),(5,vi x_.1)]) (fun x_=>stL [some (.box x_.2.2.2.2),some (.row 1 96 6 (exR x_.2.2.2.1))]) (fun x_=>x_.1≤l.length∧x_.2.1.length=x_.1∧1≤x_.2.2.1∧(mkL mkSm (l.drop x_.1) x_.2.2.1).2=(mkL mkSm l k).2∧x_.2.1++(mkL mkSm (l.drop x_.1) x_.2.2.1).1=(mkL mkSm l k).1∧agrs shSm ((x_.2.1++l.drop x_.1).map eSm) x_.2.2.2.1∧Tr x_.2.2.2.2 (subss shSm ((x_.2.1++l.drop x_.1).map eSm) x_.2.2.2.1++L)∧x_.2.2.1+4*(wL (wSm) (l.drop x_.1):Int)≤1099511627776) (fun x_=>l.length-x_.1) (0,[],k,V0,τ0) (⟨Nat.zero_le _,rfl,h1,rfl,rfl,ha,hT0,h2⟩) (Jg rfl ⟨.refl _,.refl _,.refl _,trivial⟩ ⟨⟨rfl,_,rfl,rfl⟩,⟨rfl,_,rfl,rfl,rfl,rfl,rfl⟩,trivial⟩) (fun _=>Nat.le_refl 2) ?_
 rintro⟨i,d,q,V,τ1⟩ ⟨i1,i2,i3,i4,i5,i6,i7,i8⟩
 simp only at i1 i2 i3 i4 i5 i6 i7 i8
 have hll:l.length≤wL (wSm) l:=Nat.le_add_right _ _
 show Ok _ _ _ _ (envL [(0,.sl 1 1 0 l.length),(1,vi q),(5,vi i)]) (stL [some (.box τ1),some (.row 1 96 6 (exR V))])
 rcases hx:l[i]? with _|x
 ·have hle:=Jk hx
  have ek:decide ((i:Int)<((l.length-0:Nat):Int))=false:=J1 (by omega)
  rw[Jm hx]at i4 i5 i6 i7
  simp only[mkL,List.append_nil]at i4 i5 i6 i7
  subst i5
  repeat' first|refine Z1 ?_|refine Z2 ?_|refine Zo ?_|refine J5 ?_|refine Zq ?_|refine Jf ?_|refine J9 ?_|refine J3 ?_|refine Jb ?_|refine Zv ?_|refine Zt ?_
  exact⟨V,τ1,congrArg (fun v=>AEnd.ret (vi v)) i4,rfl,rfl,i6,i7⟩
 ·obtain⟨hd,hlt⟩:=Jc hx
  have ek:decide ((i:Int)<((l.length-0:Nat):Int))=true:=J0 (by omega)
  rw[hd]at i4 i5 i6 i7 i8
  rw[J00]at i8
  simp only[mkL]at i4 i5
  rw[List.map_append]at i6 i7
  obtain⟨A,r,B,rfl,hA,a1,a2,a3⟩:=J0M (A:=d.map eSm) (B:=(l.drop (i+1)).map eSm) (x:=eSm x) i6
  have hA':A.length=i:=by rw[List.length_map]at hA;omega
  have hcx:=cntSm x q
  have n3:1≤(mkSm x q).2:=by omega
  have n8:(mkSm x q).2+4*(wL (wSm) (l.drop (i+1)):Int)≤1099511627776:=by omega
  have n5:(d++[(mkSm x q).1])++(mkL mkSm (l.drop (i+1)) (mkSm x q).2).1=(mkL mkSm l k).1:=by rw[List.append_assoc];exact i5
  obtain⟨r0,r1,r2,r3,r4,r5,rfl⟩:=len6 (J0k a2).2
  rw[JY hA]at i7
  have t0:Tr τ1 (([(.im 9 shStr,.im (x.outs.map eStr),r3),(.im 156 shItm,.im (x.code.map eItm),r4),(.im 91 shItms,.im (x.args.map eItms),r5)]:List (Sh×D×Value))++(subss shSm (d.map eSm) A++(subss shSm ((l.drop (i+1)).map eSm) B++L))):=by
   refine i7.perm ?_
   rw[List.append_assoc]
   show List.Perm (_++((([(.im 9 shStr,.im (x.outs.map eStr),r3),(.im 156 shItm,.im (x.code.map eItm),r4),(.im 91 shItms,.im (x.args.map eItms),r5)]:List (Sh×D×Value))++_)++_)) _
   rw[List.append_assoc]
   exact List.perm_append_comm_assoc _ _ _
  simp only[wSm]at i8 hcx
  have c0:=cntL cntS x.outs (q+1+1+1)
  have p0:=t0
  repeat' first|refine Z1 ?_|refine Z2 ?_|refine Z5 ?_|refine Jv rfl rfl hlt rfl rfl rfl rfl ?_|refine J14 (A:=A) (B:=B) (r:=[r0,r1,r2,r3,r4,r5]) (r':=[.int .i64 (q),r1,r2,r3,r4,r5]) (c:=0) hA' rfl rfl rfl rfl rfl rfl rfl rfl ?_|refine Zc (JX (q+1) (by omega) (by omega)) ?_|refine J14 (A:=A) (B:=B) (r:=[.int .i64 (q),r1,r2,r3,r4,r5]) (r':=[.int .i64 (q),.string (markT (q+1)),r2,r3,r4,r5]) (c:=1) hA' rfl rfl rfl rfl rfl rfl rfl rfl ?_|refine J14 (A:=A) (B:=B) (r:=[.int .i64 (q),.string (markT (q+1)),r2,r3,r4,r5]) (r':=[.int .i64 (q),.string (markT (q+1)),.int .i64 (q+1+1),r3,r4,r5]) (c:=2) hA' rfl rfl rfl rfl rfl rfl rfl rfl ?_|refine J1m (A:=A) (B:=B) (r:=[.int .i64 (q),.string (markT (q+1)),.int .i64 (q+1+1),r3,r4,r5]) (v:=r3) (c:=3) hA' rfl rfl rfl rfl rfl rfl ?_|refine Yxx ((J1Z x.outs (q+1+1+1) (by omega) (by omega) p0).at (i:=0) rfl) ?_|refine Zf ?_|refine Zo ?_|refine J5 ?_|refine Zp ?_|refine J4 ?_|refine J7 ?_|refine J3 ?_
  rintro Z σ2 ⟨τ2,⟨rfl,t1⟩,rfl⟩
  refine⟨_,rfl,?_⟩
  have c1:=cntL cntI x.code ((mkL mkStr x.outs (q+1+1+1)).2)
  have p1:=t1.perm (List.perm_middle (l₁:=[(.im 9 shStr,.im ((mkL mkStr x.outs (q+1+1+1)).1.map eStr),r3)]))
  repeat' first|refine Z1 ?_|refine Z2 ?_|refine Z5 ?_|refine Jv rfl rfl hlt rfl rfl rfl rfl ?_|refine J1m (A:=A) (B:=B) (r:=[.int .i64 (q),.string (markT (q+1)),.int .i64 (q+1+1),r3,r4,r5]) (v:=r4) (c:=4) hA' rfl rfl rfl rfl rfl rfl ?_|refine Yxx ((J2M x.code ((mkL mkStr x.outs (q+1+1+1)).2) (by omega) (by omega) p1).at (i:=0) rfl) ?_|refine Zo ?_
  rintro Z σ3 ⟨τ3,⟨rfl,t2⟩,rfl⟩
  refine⟨_,rfl,?_⟩
  have c2:=cntL cntIs x.args ((mkL mkItm x.code ((mkL mkStr x.outs (q+1+1+1)).2)).2)
  have p2:=t2.perm (List.perm_middle (l₁:=[(.im 156 shItm,.im ((mkL mkItm x.code ((mkL mkStr x.outs (q+1+1+1)).2)).1.map eItm),r4),(.im 9 shStr,.im ((mkL mkStr x.outs (q+1+1+1)).1.map eStr),r3)]))
  repeat' first|refine Z1 ?_|refine Z2 ?_|refine Z5 ?_|refine Jv rfl rfl hlt rfl rfl rfl rfl ?_|refine J1m (A:=A) (B:=B) (r:=[.int .i64 (q),.string (markT (q+1)),.int .i64 (q+1+1),r3,r4,r5]) (v:=r5) (c:=5) hA' rfl rfl rfl rfl rfl rfl ?_|refine Yxx ((J4Y x.args ((mkL mkItm x.code ((mkL mkStr x.outs (q+1+1+1)).2)).2) (by omega) (by omega) p2).at (i:=0) rfl) ?_|refine Jd ?_
  rintro Z σ4 ⟨τ4,⟨rfl,t3⟩,rfl⟩
  refine⟨_,rfl,?_⟩
  have n6:agrs shSm (((d++[(mkSm x q).1])++l.drop (i+1)).map eSm) (A++[.int .i64 (q),.string (markT (q+1)),.int .i64 (q+1+1),r3,r4,r5]::B):=by
   rw[List.append_assoc,List.map_append]
   exact J07 a1 ⟨by simp[agr,eSm,mkSm],a3⟩
  have n7:Tr τ4 (subss shSm (((d++[(mkSm x q).1])++l.drop (i+1)).map eSm) (A++[.int .i64 (q),.string (markT (q+1)),.int .i64 (q+1+1),r3,r4,r5]::B)++L):=by
   rw[List.append_assoc,List.map_append,JY hA]
   refine t3.perm ?_
   refine List.Perm.trans (List.Perm.append_right (subss shSm (d.map eSm) A++(subss shSm ((l.drop (i+1)).map eSm) B++L)) (show List.Perm (α:=Sh×D×Value) [(.im 91 shItms,.im ((mkL mkItms x.args ((mkL mkItm x.code ((mkL mkStr x.outs (q+1+1+1)).2)).2)).1.map eItms),r5),(.im 156 shItm,.im ((mkL mkItm x.code ((mkL mkStr x.outs (q+1+1+1)).2)).1.map eItm),r4),(.im 9 shStr,.im ((mkL mkStr x.outs (q+1+1+1)).1.map eStr),r3)] [(.im 9 shStr,.im ((mkL mkStr x.outs (q+1+1+1)).1.map eStr),r3),(.im 156 shItm,.im ((mkL mkItm x.code ((mkL mkStr x.outs (q+1+1+1)).2)).1.map eItm),r4),(.im 91 shItms,.im ((mkL mkItms x.args ((mkL mkItm x.code ((mkL mkStr x.outs (q+1+1+1)).2)).2)).1.map eItms),r5)]from List.reverse_perm (α:=Sh×D×Value) [(.im 9 shStr,.im ((mkL mkStr x.outs (q+1+1+1)).1.map eStr),r3),(.im 156 shItm,.im ((mkL mkItm x.code ((mkL mkStr x.outs (q+1+1+1)).2)).1.map eItm),r4),(.im 91 shItms,.im ((mkL mkItms x.args ((mkL mkItm x.code ((mkL mkStr x.outs (q+1+1+1)).2)).2)).1.map eItms),r5)])) ?_
   rw[List.append_assoc]
   show List.Perm _ (_++((([(.im 9 shStr,.im ((mkL mkStr x.outs (q+1+1+1)).1.map eStr),r3),(.im 156 shItm,.im ((mkL mkItm x.code ((mkL mkStr x.outs (q+1+1+1)).2)).1.map eItm),r4),(.im 91 shItms,.im ((mkL mkItms x.args ((mkL mkItm x.code ((mkL mkStr x.outs (q+1+1+1)).2)).2)).1.map eItms),r5)]:List (Sh×D×Value))++_)++_))
   rw[List.append_assoc]
   exact List.perm_append_comm_assoc _ _ _
  repeat' first|refine Z1 ?_|refine Z2 ?_|refine Z3 ?_|refine Z5 ?_|refine Zf ?_|refine Jd ?_|refine J3 ?_|refine J6 ?_
  exact⟨(i+1,d++[(mkSm x q).1],(mkSm x q).2,A++[.int .i64 (q),.string (markT (q+1)),.int .i64 (q+1+1),r3,r4,r5]::B,τ4),⟨hlt,by simp[i2],n3,i4,n5,n6,n7,n8⟩,by(try simp only);omega,Jh (Nat.le_of_ble_eq_true rfl) ⟨⟨rfl,rfl⟩,⟨rfl,rfl⟩,⟨rfl,rfl⟩,trivial⟩ ⟨⟨rfl,trivial⟩,⟨rfl,Je rfl,J0l _ _⟩,trivial⟩⟩
theorem J4V (l:List (Cls)) (k:Int) (h1:1≤k) (h2:k+4*(wL (wCls) l:Int)≤1099511627776) {u:Value} {τ:FH} {L:List (Sh×D×Value)} (hT:Tr τ ((.im 53 shCls,.im (l.map eCls),u)::L)):
  BFun X 36 [.d (.s u),vi k] τ fun A τ'=>A=.ret (vi (mkL mkCls l k).2)∧Tr τ' ((.im 53 shCls,.im ((mkL mkCls l k).1.map eCls),u)::L):=by
 refine BFun.open hT rfl rfl ⟨_,Tryz.func36,by decide,rfl⟩ (by rw[List.length_map,List.length_map,J0d]) ?_
 intro V0 τ0 ha hT0
 rw[List.length_map]
 refine Jx Tryz.func36 rfl (by decide) Tryz.ntmps36 Tryz.results36 (by simp) ?_
 repeat' first|refine Z1 ?_|refine Z2 ?_|refine Zo ?_|refine J5 ?_|refine J4 ?_
 refine Jo (ι:=Nat×List (Cls)×Int×List (List Value)×FH) (fun x_=>envL [(0,.sl 1 1 0 l.length),(1,vi x_.2.2.1),(5,vi x_.1)]) (fun x_=>stL [some (.box x_.2.2.2.2),some (.row 1 53 7 (exR x_.2.2.2.1))]) (fun x_=>x_.1≤l.length∧x_.2.1.length=x_.1∧1≤x_.2.2.1∧(mkL mkCls (l.drop x_.1) x_.2.2.1).2=(mkL mkCls l k).2∧x_.2.1++(mkL mkCls (l.drop x_.1) x_.2.2.1).1=(mkL mkCls l k).1∧agrs shCls ((x_.2.1++l.drop x_.1).map eCls) x_.2.2.2.1∧Tr x_.2.2.2.2 (subss shCls ((x_.2.1++l.drop x_.1).map eCls) x_.2.2.2.1++L)∧x_.2.2.1+4*(wL (wCls) (l.drop x_.1):Int)≤1099511627776) (fun x_=>l.length-x_.1) (0,[],k,V0,τ0) (⟨Nat.zero_le _,rfl,h1,rfl,rfl,ha,hT0,h2⟩) (Jg rfl ⟨.refl _,.refl _,.refl _,trivial⟩ ⟨⟨rfl,_,rfl,rfl⟩,⟨rfl,_,rfl,rfl,rfl,rfl,rfl⟩,trivial⟩) (fun _=>Nat.le_refl 2) ?_
 rintro⟨i,d,q,V,τ1⟩ ⟨i1,i2,i3,i4,i5,i6,i7,i8⟩
 simp only at i1 i2 i3 i4 i5 i6 i7 i8
 have hll:l.length≤wL (wCls) l:=Nat.le_add_right _ _
 show Ok _ _ _ _ (envL [(0,.sl 1 1 0 l.length),(1,vi q),(5,vi i)]) (stL [some (.box τ1),some (.row 1 53 7 (exR V))])
 rcases hx:l[i]? with _|x
 ·have hle:=Jk hx
  have ek:decide ((i:Int)<((l.length-0:Nat):Int))=false:=J1 (by omega)
  rw[Jm hx]at i4 i5 i6 i7
  simp only[mkL,List.append_nil]at i4 i5 i6 i7
  subst i5
  repeat' first|refine Z1 ?_|refine Z2 ?_|refine Zo ?_|refine J5 ?_|refine Zq ?_|refine Jf ?_|refine J9 ?_|refine J3 ?_|refine Jb ?_|refine Zv ?_|refine Zt ?_
  exact⟨V,τ1,congrArg (fun v=>AEnd.ret (vi v)) i4,rfl,rfl,i6,i7⟩
 ·obtain⟨hd,hlt⟩:=Jc hx
  have ek:decide ((i:Int)<((l.length-0:Nat):Int))=true:=J0 (by omega)
  rw[hd]at i4 i5 i6 i7 i8
  rw[J00]at i8
  simp only[mkL]at i4 i5
  rw[List.map_append]at i6 i7
  obtain⟨A,r,B,rfl,hA,a1,a2,a3⟩:=J0M (A:=d.map eCls) (B:=(l.drop (i+1)).map eCls) (x:=eCls x) i6
  have hA':A.length=i:=by rw[List.length_map]at hA;omega
  have hcx:=cntCl x q
  have n3:1≤(mkCls x q).2:=by omega
  have n8:(mkCls x q).2+4*(wL (wCls) (l.drop (i+1)):Int)≤1099511627776:=by omega
  have n5:(d++[(mkCls x q).1])++(mkL mkCls (l.drop (i+1)) (mkCls x q).2).1=(mkL mkCls l k).1:=by rw[List.append_assoc];exact i5
  obtain⟨r0,r1,r2,r3,r4,r5,r6,rfl⟩:=len7 (J0k a2).2
  rw[JY hA]at i7
  have t0:Tr τ1 (([(.im 88 shSlt,.im (x.ins.map eSlt),r1),(.im 88 shSlt,.im (x.outs.map eSlt),r2),(.im 9 shStr,.im (x.locs.map eStr),r3),(.im 3 shNum,.im (x.mems.map eNum),r4),(.im 3 shNum,.im (x.insts.map eNum),r5),(.im 96 shSm,.im (x.body.map eSm),r6)]:List (Sh×D×Value))++(subss shCls (d.map eCls) A++(subss shCls ((l.drop (i+1)).map eCls) B++L))):=by
   refine i7.perm ?_
   rw[List.append_assoc]
   show List.Perm (_++((([(.im 88 shSlt,.im (x.ins.map eSlt),r1),(.im 88 shSlt,.im (x.outs.map eSlt),r2),(.im 9 shStr,.im (x.locs.map eStr),r3),(.im 3 shNum,.im (x.mems.map eNum),r4),(.im 3 shNum,.im (x.insts.map eNum),r5),(.im 96 shSm,.im (x.body.map eSm),r6)]:List (Sh×D×Value))++_)++_)) _
   rw[List.append_assoc]
   exact List.perm_append_comm_assoc _ _ _
  simp only[wCls]at i8 hcx
  have c0:=cntL cntSl x.ins (q+1)
  have p0:=t0
  repeat' first|refine Z1 ?_|refine Z2 ?_|refine Z5 ?_|refine Jv rfl rfl hlt rfl rfl rfl rfl ?_|refine Zc (JX (q) (by omega) (by omega)) ?_|refine J14 (A:=A) (B:=B) (r:=[r0,r1,r2,r3,r4,r5,r6]) (r':=[.string (markT (q)),r1,r2,r3,r4,r5,r6]) (c:=0) hA' rfl rfl rfl rfl rfl rfl rfl rfl ?_|refine J1m (A:=A) (B:=B) (r:=[.string (markT (q)),r1,r2,r3,r4,r5,r6]) (v:=r1) (c:=1) hA' rfl rfl rfl rfl rfl rfl ?_|refine Yxx ((J2X x.ins (q+1) (by omega) (by omega) p0).at (i:=0) rfl) ?_|refine Zf ?_|refine Zo ?_|refine J5 ?_|refine Zp ?_|refine J4 ?_|refine J7 ?_|refine J3 ?_
  rintro Z σ2 ⟨τ2,⟨rfl,t1⟩,rfl⟩
  refine⟨_,rfl,?_⟩
  have c1:=cntL cntSl x.outs ((mkL mkSlt x.ins (q+1)).2)
  have p1:=t1.perm (List.perm_middle (l₁:=[(.im 88 shSlt,.im ((mkL mkSlt x.ins (q+1)).1.map eSlt),r1)]))
  repeat' first|refine Z1 ?_|refine Z2 ?_|refine Z5 ?_|refine Jv rfl rfl hlt rfl rfl rfl rfl ?_|refine J1m (A:=A) (B:=B) (r:=[.string (markT (q)),r1,r2,r3,r4,r5,r6]) (v:=r2) (c:=2) hA' rfl rfl rfl rfl rfl rfl ?_|refine Yxx ((J2X x.outs ((mkL mkSlt x.ins (q+1)).2) (by omega) (by omega) p1).at (i:=0) rfl) ?_|refine Zo ?_
  rintro Z σ3 ⟨τ3,⟨rfl,t2⟩,rfl⟩
  refine⟨_,rfl,?_⟩
  have c2:=cntL cntS x.locs ((mkL mkSlt x.outs ((mkL mkSlt x.ins (q+1)).2)).2)
  have p2:=t2.perm (List.perm_middle (l₁:=[(.im 88 shSlt,.im ((mkL mkSlt x.outs ((mkL mkSlt x.ins (q+1)).2)).1.map eSlt),r2),(.im 88 shSlt,.im ((mkL mkSlt x.ins (q+1)).1.map eSlt),r1)]))
  repeat' first|refine Z1 ?_|refine Z2 ?_|refine Z5 ?_|refine Jv rfl rfl hlt rfl rfl rfl rfl ?_|refine J1m (A:=A) (B:=B) (r:=[.string (markT (q)),r1,r2,r3,r4,r5,r6]) (v:=r3) (c:=3) hA' rfl rfl rfl rfl rfl rfl ?_|refine Yxx ((J1Z x.locs ((mkL mkSlt x.outs ((mkL mkSlt x.ins (q+1)).2)).2) (by omega) (by omega) p2).at (i:=0) rfl) ?_|refine Zo ?_
  rintro Z σ4 ⟨τ4,⟨rfl,t3⟩,rfl⟩
  refine⟨_,rfl,?_⟩
  have c3:=cntL cntN x.mems ((mkL mkStr x.locs ((mkL mkSlt x.outs ((mkL mkSlt x.ins (q+1)).2)).2)).2)
  have p3:=t3.perm (List.perm_middle (l₁:=[(.im 9 shStr,.im ((mkL mkStr x.locs ((mkL mkSlt x.outs ((mkL mkSlt x.ins (q+1)).2)).2)).1.map eStr),r3),(.im 88 shSlt,.im ((mkL mkSlt x.outs ((mkL mkSlt x.ins (q+1)).2)).1.map eSlt),r2),(.im 88 shSlt,.im ((mkL mkSlt x.ins (q+1)).1.map eSlt),r1)]))
  repeat' first|refine Z1 ?_|refine Z2 ?_|refine Z5 ?_|refine Jv rfl rfl hlt rfl rfl rfl rfl ?_|refine J1m (A:=A) (B:=B) (r:=[.string (markT (q)),r1,r2,r3,r4,r5,r6]) (v:=r4) (c:=4) hA' rfl rfl rfl rfl rfl rfl ?_|refine Yxx ((J3n x.mems ((mkL mkStr x.locs ((mkL mkSlt x.outs ((mkL mkSlt x.ins (q+1)).2)).2)).2) (by omega) (by omega) p3).at (i:=0) rfl) ?_|refine Zo ?_
  rintro Z σ5 ⟨τ5,⟨rfl,t4⟩,rfl⟩
  refine⟨_,rfl,?_⟩
  have c4:=cntL cntN x.insts ((mkL mkNum x.mems ((mkL mkStr x.locs ((mkL mkSlt x.outs ((mkL mkSlt x.ins (q+1)).2)).2)).2)).2)
  have p4:=t4.perm (List.perm_middle (l₁:=[(.im 3 shNum,.im ((mkL mkNum x.mems ((mkL mkStr x.locs ((mkL mkSlt x.outs ((mkL mkSlt x.ins (q+1)).2)).2)).2)).1.map eNum),r4),(.im 9 shStr,.im ((mkL mkStr x.locs ((mkL mkSlt x.outs ((mkL mkSlt x.ins (q+1)).2)).2)).1.map eStr),r3),(.im 88 shSlt,.im ((mkL mkSlt x.outs ((mkL mkSlt x.ins (q+1)).2)).1.map eSlt),r2),(.im 88 shSlt,.im ((mkL mkSlt x.ins (q+1)).1.map eSlt),r1)]))
  repeat' first|refine Z1 ?_|refine Z2 ?_|refine Z5 ?_|refine Jv rfl rfl hlt rfl rfl rfl rfl ?_|refine J1m (A:=A) (B:=B) (r:=[.string (markT (q)),r1,r2,r3,r4,r5,r6]) (v:=r5) (c:=5) hA' rfl rfl rfl rfl rfl rfl ?_|refine Yxx ((J3n x.insts ((mkL mkNum x.mems ((mkL mkStr x.locs ((mkL mkSlt x.outs ((mkL mkSlt x.ins (q+1)).2)).2)).2)).2) (by omega) (by omega) p4).at (i:=0) rfl) ?_|refine Zo ?_
  rintro Z σ6 ⟨τ6,⟨rfl,t5⟩,rfl⟩
  refine⟨_,rfl,?_⟩
  have c5:=cntL cntSm x.body ((mkL mkNum x.insts ((mkL mkNum x.mems ((mkL mkStr x.locs ((mkL mkSlt x.outs ((mkL mkSlt x.ins (q+1)).2)).2)).2)).2)).2)
  have p5:=t5.perm (List.perm_middle (l₁:=[(.im 3 shNum,.im ((mkL mkNum x.insts ((mkL mkNum x.mems ((mkL mkStr x.locs ((mkL mkSlt x.outs ((mkL mkSlt x.ins (q+1)).2)).2)).2)).2)).1.map eNum),r5),(.im 3 shNum,.im ((mkL mkNum x.mems ((mkL mkStr x.locs ((mkL mkSlt x.outs ((mkL mkSlt x.ins (q+1)).2)).2)).2)).1.map eNum),r4),(.im 9 shStr,.im ((mkL mkStr x.locs ((mkL mkSlt x.outs ((mkL mkSlt x.ins (q+1)).2)).2)).1.map eStr),r3),(.im 88 shSlt,.im ((mkL mkSlt x.outs ((mkL mkSlt x.ins (q+1)).2)).1.map eSlt),r2),(.im 88 shSlt,.im ((mkL mkSlt x.ins (q+1)).1.map eSlt),r1)]))
  repeat' first|refine Z1 ?_|refine Z2 ?_|refine Z5 ?_|refine Jv rfl rfl hlt rfl rfl rfl rfl ?_|refine J1m (A:=A) (B:=B) (r:=[.string (markT (q)),r1,r2,r3,r4,r5,r6]) (v:=r6) (c:=6) hA' rfl rfl rfl rfl rfl rfl ?_|refine Yxx ((J6Q x.body ((mkL mkNum x.insts ((mkL mkNum x.mems ((mkL mkStr x.locs ((mkL mkSlt x.outs ((mkL mkSlt x.ins (q+1)).2)).2)).2)).2)).2) (by omega) (by omega) p5).at (i:=0) rfl) ?_|refine Jd ?_
  rintro Z σ7 ⟨τ7,⟨rfl,t6⟩,rfl⟩
  refine⟨_,rfl,?_⟩
  have n6:agrs shCls (((d++[(mkCls x q).1])++l.drop (i+1)).map eCls) (A++[.string (markT (q)),r1,r2,r3,r4,r5,r6]::B):=by
   rw[List.append_assoc,List.map_append]
   exact J07 a1 ⟨by simp[agr,eCls,mkCls],a3⟩
  have n7:Tr τ7 (subss shCls (((d++[(mkCls x q).1])++l.drop (i+1)).map eCls) (A++[.string (markT (q)),r1,r2,r3,r4,r5,r6]::B)++L):=by
   rw[List.append_assoc,List.map_append,JY hA]
   refine t6.perm ?_
   refine List.Perm.trans (List.Perm.append_right (subss shCls (d.map eCls) A++(subss shCls ((l.drop (i+1)).map eCls) B++L)) (show List.Perm (α:=Sh×D×Value) [(.im 96 shSm,.im ((mkL mkSm x.body ((mkL mkNum x.insts ((mkL mkNum x.mems ((mkL mkStr x.locs ((mkL mkSlt x.outs ((mkL mkSlt x.ins (q+1)).2)).2)).2)).2)).2)).1.map eSm),r6),(.im 3 shNum,.im ((mkL mkNum x.insts ((mkL mkNum x.mems ((mkL mkStr x.locs ((mkL mkSlt x.outs ((mkL mkSlt x.ins (q+1)).2)).2)).2)).2)).1.map eNum),r5),(.im 3 shNum,.im ((mkL mkNum x.mems ((mkL mkStr x.locs ((mkL mkSlt x.outs ((mkL mkSlt x.ins (q+1)).2)).2)).2)).1.map eNum),r4),(.im 9 shStr,.im ((mkL mkStr x.locs ((mkL mkSlt x.outs ((mkL mkSlt x.ins (q+1)).2)).2)).1.map eStr),r3),(.im 88 shSlt,.im ((mkL mkSlt x.outs ((mkL mkSlt x.ins (q+1)).2)).1.map eSlt),r2),(.im 88 shSlt,.im ((mkL mkSlt x.ins (q+1)).1.map eSlt),r1)] [(.im 88 shSlt,.im ((mkL mkSlt x.ins (q+1)).1.map eSlt),r1),(.im 88 shSlt,.im ((mkL mkSlt x.outs ((mkL mkSlt x.ins (q+1)).2)).1.map eSlt),r2),(.im 9 shStr,.im ((mkL mkStr x.locs ((mkL mkSlt x.outs ((mkL mkSlt x.ins (q+1)).2)).2)).1.map eStr),r3),(.im 3 shNum,.im ((mkL mkNum x.mems ((mkL mkStr x.locs ((mkL mkSlt x.outs ((mkL mkSlt x.ins (q+1)).2)).2)).2)).1.map eNum),r4),(.im 3 shNum,.im ((mkL mkNum x.insts ((mkL mkNum x.mems ((mkL mkStr x.locs ((mkL mkSlt x.outs ((mkL mkSlt x.ins (q+1)).2)).2)).2)).2)).1.map eNum),r5),(.im 96 shSm,.im ((mkL mkSm x.body ((mkL mkNum x.insts ((mkL mkNum x.mems ((mkL mkStr x.locs ((mkL mkSlt x.outs ((mkL mkSlt x.ins (q+1)).2)).2)).2)).2)).2)).1.map eSm),r6)]from List.reverse_perm (α:=Sh×D×Value) [(.im 88 shSlt,.im ((mkL mkSlt x.ins (q+1)).1.map eSlt),r1),(.im 88 shSlt,.im ((mkL mkSlt x.outs ((mkL mkSlt x.ins (q+1)).2)).1.map eSlt),r2),(.im 9 shStr,.im ((mkL mkStr x.locs ((mkL mkSlt x.outs ((mkL mkSlt x.ins (q+1)).2)).2)).1.map eStr),r3),(.im 3 shNum,.im ((mkL mkNum x.mems ((mkL mkStr x.locs ((mkL mkSlt x.outs ((mkL mkSlt x.ins (q+1)).2)).2)).2)).1.map eNum),r4),(.im 3 shNum,.im ((mkL mkNum x.insts ((mkL mkNum x.mems ((mkL mkStr x.locs ((mkL mkSlt x.outs ((mkL mkSlt x.ins (q+1)).2)).2)).2)).2)).1.map eNum),r5),(.im 96 shSm,.im ((mkL mkSm x.body ((mkL mkNum x.insts ((mkL mkNum x.mems ((mkL mkStr x.locs ((mkL mkSlt x.outs ((mkL mkSlt x.ins (q+1)).2)).2)).2)).2)).2)).1.map eSm),r6)])) ?_
   rw[List.append_assoc]
   show List.Perm _ (_++((([(.im 88 shSlt,.im ((mkL mkSlt x.ins (q+1)).1.map eSlt),r1),(.im 88 shSlt,.im ((mkL mkSlt x.outs ((mkL mkSlt x.ins (q+1)).2)).1.map eSlt),r2),(.im 9 shStr,.im ((mkL mkStr x.locs ((mkL mkSlt x.outs ((mkL mkSlt x.ins (q+1)).2)).2)).1.map eStr),r3),(.im 3 shNum,.im ((mkL mkNum x.mems ((mkL mkStr x.locs ((mkL mkSlt x.outs ((mkL mkSlt x.ins (q+1)).2)).2)).2)).1.map eNum),r4),(.im 3 shNum,.im ((mkL mkNum x.insts ((mkL mkNum x.mems ((mkL mkStr x.locs ((mkL mkSlt x.outs ((mkL mkSlt x.ins (q+1)).2)).2)).2)).2)).1.map eNum),r5),(.im 96 shSm,.im ((mkL mkSm x.body ((mkL mkNum x.insts ((mkL mkNum x.mems ((mkL mkStr x.locs ((mkL mkSlt x.outs ((mkL mkSlt x.ins (q+1)).2)).2)).2)).2)).2)).1.map eSm),r6)]:List (Sh×D×Value))++_)++_))
   rw[List.append_assoc]
   exact List.perm_append_comm_assoc _ _ _
  repeat' first|refine Z1 ?_|refine Z2 ?_|refine Z3 ?_|refine Z5 ?_|refine Zf ?_|refine Jd ?_|refine J3 ?_|refine J6 ?_
  exact⟨(i+1,d++[(mkCls x q).1],(mkCls x q).2,A++[.string (markT (q)),r1,r2,r3,r4,r5,r6]::B,τ7),⟨hlt,by simp[i2],n3,i4,n5,n6,n7,n8⟩,by(try simp only);omega,Jh (Nat.le_of_ble_eq_true rfl) ⟨⟨rfl,rfl⟩,⟨rfl,rfl⟩,⟨rfl,rfl⟩,trivial⟩ ⟨⟨rfl,trivial⟩,⟨rfl,Je rfl,J0l _ _⟩,trivial⟩⟩
theorem J1U (l:List Cls) (k:Int) (h1:1≤k) (h2:k+4*(wL wCls l:Int)≤1099511627776) {u:Value} {τ:FH} {L:List (Sh×D×Value)} (hT:Tr τ ((.im 53 shCls,.im (l.map eCls),u)::L)):
  BFun X 14 [.agg [.d (.s u)],vi k] τ fun A τ'=>A=.ret (vi (mkL mkCls l k).2)∧Tr τ' ((.im 53 shCls,.im ((mkL mkCls l k).1.map eCls),u)::L):=by
 obtain⟨ua,un,uc,rfl⟩:=hT.sl
 refine BFun.words rfl ?_
 refine Jx Tryz.func14 rfl (by decide) Tryz.ntmps14 Tryz.results14 (by simp) ?_
 repeat' first|refine Z1 ?_|refine Z2 ?_|refine Z5 ?_|refine Yxx ((J4V l k h1 h2 hT).at (i:=0) rfl) ?_|refine Zo ?_
 rintro Z σ2 ⟨τ1,⟨rfl,t1⟩,rfl⟩
 refine⟨_,rfl,?_⟩
 repeat' first|refine Z1 ?_|refine Z2 ?_|refine Zo ?_|refine J9 ?_|refine Zt ?_
 exact⟨τ1,⟨rfl,t1⟩,rfl,_,rfl,rfl⟩
end Go.Pm
