/- Part of the proof: Owm. -/
import Derived.Test.YtdjanhhljinokaaGreatDoorT10
import Derived.Test.YtdjanhhljinokaaGreatDoorT14
import Derived.Test.YtdjanhhljinokaaGreatDoorT11
import Derived.Test.YtdjanhhljinokaaGreatDoorT12
set_option linter.unusedVariables false
set_option linter.unusedSimpArgs false
namespace Go.Pm
attribute [local irreducible] AR Ok inBlock andThen endQ aoper
set_option maxHeartbeats 1000000
open Go.Proofs
abbrev shStr:List Sh:=[.w]
abbrev shNum:List Sh:=[.w]
abbrev shItm:List Sh:=[.w,.w,.w]
abbrev shSlt:List Sh:=[.w,.w]
abbrev shItms:List Sh:=[.im 156 shItm]
abbrev shSm:List Sh:=[.w,.w,.w,.im 9 shStr,.im 156 shItm,.im 91 shItms]
abbrev shCls:List Sh:=[.w,.im 88 shSlt,.im 88 shSlt,.im 9 shStr,.im 3 shNum,.im 3 shNum,.im 96 shSm]
def vStr (x:ByteArray):List Value:=[.string x]
theorem Jac (x:ByteArray):agr shStr (eStr x) (vStr x):=by simp[agr,eStr,vStr]
theorem J3R:Words shStr:=J0p (J2c)
def vNum (x:Int):List Value:=[.int .i64 x]
theorem J5g (x:Int):agr shNum (eNum x) (vNum x):=by simp[agr,eNum,vNum]
theorem J1k:Words shNum:=J0p (J2c)
def vItm (x:Itm):List Value:=[.int .i64 x.op,.int .i64 x.val,.string x.name]
theorem Ja7 (x:Itm):agr shItm (eItm x) (vItm x):=by simp[agr,eItm,vItm]
theorem J3X:Words shItm:=J0p (J0p (J0p (J2c)))
def vSlt (x:Slt):List Value:=[.string x.name,.int .i64 x.type]
theorem J9M (x:Slt):agr shSlt (eSlt x) (vSlt x):=by simp[agr,eSlt,vSlt]
theorem J3T:Words shSlt:=J0p (J0p (J2c))
theorem J2n (l:List (ByteArray)) (hw:wL (wStr) l≤1048576) {τ:FH} {L:List (Sh×D×Value)} (hT:Tr τ L):
  BFun X 112 [.d (.im (l.map eStr))] τ fun A τ'=>∃u,A=.ret (.d (.s u))∧Tr τ' ((.im 9 shStr,.im (l.map eStr),u)::L):=by
 simp only[wL]at hw
 refine BFun.row rfl ?_
 refine Jw Tryz.func112 rfl (by decide) Tryz.ntmps112 Tryz.results112 (by simp) ?_
 repeat' first|refine Z1 ?_|refine Z2 ?_|refine Z5 ?_|refine J04 (k:=l.length) rfl rfl (by omega) rfl rfl rfl rfl rfl rfl ?_|refine Zd ?_|refine Zo ?_|refine J6 ?_|refine J5 ?_
 refine Jq (ι:=Nat) (fun x=>envL [(0,.d (.im (l.map eStr))),(3,.sl 1 1 0 l.length),(4,vi x)]) (fun x=>stL [some (.box τ),some (.row 1 9 1 (trk eStr l x [.d (.s (.string .empty))]))]) (fun x=>x≤l.length) (fun x=>l.length-x) 0 (Nat.zero_le _) (Jj rfl ⟨.refl _,.refl _,.refl _,trivial⟩ ⟨⟨rfl,_,rfl,rfl⟩,⟨rfl,_,rfl,rfl,rfl,rfl,rfl⟩,trivial⟩) (fun _=>Nat.le_refl 2) ?_
 intro k i1
 rcases hx:l[k]? with _|x
 ·have hle:=Jo hx
  have ek:decide ((k:Int)<(l.length:Int))=false:=J1 (by omega)
  repeat' first|refine Z1 ?_|refine Z2 ?_|refine Z5 ?_|refine Zd ?_|refine Zo ?_|refine J6 ?_|refine Zq ?_|refine Jh ?_|refine Jb ?_|refine J3 ?_|refine Ja ?_|refine Zv ?_|refine Zt ?_
  refine⟨τ,1,1,l.map vStr,by simp,rfl,?_,J0n Jac l,by rw[J07 J3R];exact hT⟩
  show some (AO.row 1 _ _ (trk _ _ _ _))=_
  rw[J0i hle,J0U (v:=vStr) (fun x=>rfl)];rfl
 ·obtain⟨hdr,hlt⟩:=Ji hx
  have hwx:=JE (w:=wStr) (List.mem_of_getElem? hx)
  have ek:decide ((k:Int)<(l.length:Int))=true:=J0 (by omega)
  repeat' first|refine Z1 ?_|refine Z2 ?_|refine Z3 ?_|refine Z5 ?_|refine Jy rfl rfl hlt rfl rfl rfl rfl ?_|refine J0g hx rfl rfl rfl rfl rfl rfl rfl rfl ?_|refine Zd ?_|refine Ze ?_|refine Zf ?_|refine Zo ?_|refine J6 ?_|refine Jf ?_|refine Zp ?_|refine J5 ?_|refine J8 ?_|refine J3 ?_|refine J4 ?_
  exact⟨k+1,hlt,by(try simp only);omega,Jl (Nat.le_of_ble_eq_true rfl) ⟨⟨rfl,rfl⟩,⟨rfl,rfl⟩,⟨rfl,rfl⟩,trivial⟩ ⟨⟨rfl,trivial⟩,⟨rfl,Je rfl,J0f _ _ _ _ rfl⟩,trivial⟩⟩
theorem J1F (l:List (Int)) (hw:wL (wNum0) l≤1048576) {τ:FH} {L:List (Sh×D×Value)} (hT:Tr τ L):
  BFun X 10 [.d (.im (l.map eNum))] τ fun A τ'=>∃u,A=.ret (.d (.s u))∧Tr τ' ((.im 3 shNum,.im (l.map eNum),u)::L):=by
 simp only[wL]at hw
 refine BFun.row rfl ?_
 refine Jw Tryz.func10 rfl (by decide) Tryz.ntmps10 Tryz.results10 (by simp) ?_
 repeat' first|refine Z1 ?_|refine Z2 ?_|refine Z5 ?_|refine J04 (k:=l.length) rfl rfl (by omega) rfl rfl rfl rfl rfl rfl ?_|refine Zd ?_|refine Zo ?_|refine J6 ?_|refine J5 ?_
 refine Jq (ι:=Nat) (fun x=>envL [(0,.d (.im (l.map eNum))),(3,.sl 1 1 0 l.length),(4,vi x)]) (fun x=>stL [some (.box τ),some (.row 1 3 1 (trk eNum l x [.d (.s (.int .i64 0))]))]) (fun x=>x≤l.length) (fun x=>l.length-x) 0 (Nat.zero_le _) (Jj rfl ⟨.refl _,.refl _,.refl _,trivial⟩ ⟨⟨rfl,_,rfl,rfl⟩,⟨rfl,_,rfl,rfl,rfl,rfl,rfl⟩,trivial⟩) (fun _=>Nat.le_refl 2) ?_
 intro k i1
 rcases hx:l[k]? with _|x
 ·have hle:=Jo hx
  have ek:decide ((k:Int)<(l.length:Int))=false:=J1 (by omega)
  repeat' first|refine Z1 ?_|refine Z2 ?_|refine Z5 ?_|refine Zd ?_|refine Zo ?_|refine J6 ?_|refine Zq ?_|refine Jh ?_|refine Jb ?_|refine J3 ?_|refine Ja ?_|refine Zv ?_|refine Zt ?_
  refine⟨τ,1,1,l.map vNum,by simp,rfl,?_,J0n J5g l,by rw[J07 J1k];exact hT⟩
  show some (AO.row 1 _ _ (trk _ _ _ _))=_
  rw[J0i hle,J0U (v:=vNum) (fun x=>rfl)];rfl
 ·obtain⟨hdr,hlt⟩:=Ji hx
  have hwx:=JE (w:=wNum0) (List.mem_of_getElem? hx)
  have ek:decide ((k:Int)<(l.length:Int))=true:=J0 (by omega)
  repeat' first|refine Z1 ?_|refine Z2 ?_|refine Z3 ?_|refine Z5 ?_|refine Jy rfl rfl hlt rfl rfl rfl rfl ?_|refine J0g hx rfl rfl rfl rfl rfl rfl rfl rfl ?_|refine Zd ?_|refine Ze ?_|refine Zf ?_|refine Zo ?_|refine J6 ?_|refine Jf ?_|refine Zp ?_|refine J5 ?_|refine J8 ?_|refine J3 ?_|refine J4 ?_
  exact⟨k+1,hlt,by(try simp only);omega,Jl (Nat.le_of_ble_eq_true rfl) ⟨⟨rfl,rfl⟩,⟨rfl,rfl⟩,⟨rfl,rfl⟩,trivial⟩ ⟨⟨rfl,trivial⟩,⟨rfl,Je rfl,J0f _ _ _ _ rfl⟩,trivial⟩⟩
theorem J3J (l:List (Itm)) (hw:wL (wItm) l≤1048576) {τ:FH} {L:List (Sh×D×Value)} (hT:Tr τ L):
  BFun X 191 [.d (.im (l.map eItm))] τ fun A τ'=>∃u,A=.ret (.d (.s u))∧Tr τ' ((.im 156 shItm,.im (l.map eItm),u)::L):=by
 simp only[wL]at hw
 refine BFun.row rfl ?_
 refine Jw Tryz.func191 rfl (by decide) Tryz.ntmps191 Tryz.results191 (by simp) ?_
 repeat' first|refine Z1 ?_|refine Z2 ?_|refine Z5 ?_|refine J04 (k:=l.length) rfl rfl (by omega) rfl rfl rfl rfl rfl rfl ?_|refine Zd ?_|refine Zo ?_|refine J6 ?_|refine J5 ?_
 refine Jq (ι:=Nat) (fun x=>envL [(0,.d (.im (l.map eItm))),(3,.sl 1 1 0 l.length),(4,vi x)]) (fun x=>stL [some (.box τ),some (.row 1 156 3 (trk eItm l x [.d (.s (.int .i64 0)),.d (.s (.int .i64 0)),.d (.s (.string .empty))]))]) (fun x=>x≤l.length) (fun x=>l.length-x) 0 (Nat.zero_le _) (Jj rfl ⟨.refl _,.refl _,.refl _,trivial⟩ ⟨⟨rfl,_,rfl,rfl⟩,⟨rfl,_,rfl,rfl,rfl,rfl,rfl⟩,trivial⟩) (fun _=>Nat.le_refl 2) ?_
 intro k i1
 rcases hx:l[k]? with _|x
 ·have hle:=Jo hx
  have ek:decide ((k:Int)<(l.length:Int))=false:=J1 (by omega)
  repeat' first|refine Z1 ?_|refine Z2 ?_|refine Z5 ?_|refine Zd ?_|refine Zo ?_|refine J6 ?_|refine Zq ?_|refine Jh ?_|refine Jb ?_|refine J3 ?_|refine Ja ?_|refine Zv ?_|refine Zt ?_
  refine⟨τ,1,1,l.map vItm,by simp,rfl,?_,J0n Ja7 l,by rw[J07 J3X];exact hT⟩
  show some (AO.row 1 _ _ (trk _ _ _ _))=_
  rw[J0i hle,J0U (v:=vItm) (fun x=>rfl)];rfl
 ·obtain⟨hdr,hlt⟩:=Ji hx
  have hwx:=JE (w:=wItm) (List.mem_of_getElem? hx)
  have ek:decide ((k:Int)<(l.length:Int))=true:=J0 (by omega)
  repeat' first|refine Z1 ?_|refine Z2 ?_|refine Z3 ?_|refine Z5 ?_|refine Jy rfl rfl hlt rfl rfl rfl rfl ?_|refine J0g hx rfl rfl rfl rfl rfl rfl rfl rfl ?_|refine Zc (J6h x (by omega)) ?_|refine Zd ?_|refine Ze ?_|refine Zf ?_|refine Zo ?_|refine J6 ?_|refine Jf ?_|refine Zp ?_|refine J5 ?_|refine J8 ?_|refine J3 ?_|refine J4 ?_
  exact⟨k+1,hlt,by(try simp only);omega,Jl (Nat.le_of_ble_eq_true rfl) ⟨⟨rfl,rfl⟩,⟨rfl,rfl⟩,⟨rfl,rfl⟩,trivial⟩ ⟨⟨rfl,trivial⟩,⟨rfl,Je rfl,J0f _ _ _ _ rfl⟩,trivial⟩⟩
theorem J3Y (l:List (Slt)) (hw:wL (wSlt) l≤1048576) {τ:FH} {L:List (Sh×D×Value)} (hT:Tr τ L):
  BFun X 111 [.d (.im (l.map eSlt))] τ fun A τ'=>∃u,A=.ret (.d (.s u))∧Tr τ' ((.im 88 shSlt,.im (l.map eSlt),u)::L):=by
 simp only[wL]at hw
 refine BFun.row rfl ?_
 refine Jw Tryz.func111 rfl (by decide) Tryz.ntmps111 Tryz.results111 (by simp) ?_
 repeat' first|refine Z1 ?_|refine Z2 ?_|refine Z5 ?_|refine J04 (k:=l.length) rfl rfl (by omega) rfl rfl rfl rfl rfl rfl ?_|refine Zd ?_|refine Zo ?_|refine J6 ?_|refine J5 ?_
 refine Jq (ι:=Nat) (fun x=>envL [(0,.d (.im (l.map eSlt))),(3,.sl 1 1 0 l.length),(4,vi x)]) (fun x=>stL [some (.box τ),some (.row 1 88 2 (trk eSlt l x [.d (.s (.string .empty)),.d (.s (.int .i64 0))]))]) (fun x=>x≤l.length) (fun x=>l.length-x) 0 (Nat.zero_le _) (Jj rfl ⟨.refl _,.refl _,.refl _,trivial⟩ ⟨⟨rfl,_,rfl,rfl⟩,⟨rfl,_,rfl,rfl,rfl,rfl,rfl⟩,trivial⟩) (fun _=>Nat.le_refl 2) ?_
 intro k i1
 rcases hx:l[k]? with _|x
 ·have hle:=Jo hx
  have ek:decide ((k:Int)<(l.length:Int))=false:=J1 (by omega)
  repeat' first|refine Z1 ?_|refine Z2 ?_|refine Z5 ?_|refine Zd ?_|refine Zo ?_|refine J6 ?_|refine Zq ?_|refine Jh ?_|refine Jb ?_|refine J3 ?_|refine Ja ?_|refine Zv ?_|refine Zt ?_
  refine⟨τ,1,1,l.map vSlt,by simp,rfl,?_,J0n J9M l,by rw[J07 J3T];exact hT⟩
  show some (AO.row 1 _ _ (trk _ _ _ _))=_
  rw[J0i hle,J0U (v:=vSlt) (fun x=>rfl)];rfl
 ·obtain⟨hdr,hlt⟩:=Ji hx
  have hwx:=JE (w:=wSlt) (List.mem_of_getElem? hx)
  have ek:decide ((k:Int)<(l.length:Int))=true:=J0 (by omega)
  repeat' first|refine Z1 ?_|refine Z2 ?_|refine Z3 ?_|refine Z5 ?_|refine Jy rfl rfl hlt rfl rfl rfl rfl ?_|refine J0g hx rfl rfl rfl rfl rfl rfl rfl rfl ?_|refine Zc (J67 x (by omega)) ?_|refine Zd ?_|refine Ze ?_|refine Zf ?_|refine Zo ?_|refine J6 ?_|refine Jf ?_|refine Zp ?_|refine J5 ?_|refine J8 ?_|refine J3 ?_|refine J4 ?_
  exact⟨k+1,hlt,by(try simp only);omega,Jl (Nat.le_of_ble_eq_true rfl) ⟨⟨rfl,rfl⟩,⟨rfl,rfl⟩,⟨rfl,rfl⟩,trivial⟩ ⟨⟨rfl,trivial⟩,⟨rfl,Je rfl,J0f _ _ _ _ rfl⟩,trivial⟩⟩
theorem J6y (l:List (List Itm)) (hw:wL (wL wItm) l≤1048576) {τ:FH} {L:List (Sh×D×Value)} (hT:Tr τ L):
  BFun X 192 [.d (.im (l.map eItms))] τ fun A τ'=>∃u,A=.ret (.d (.s u))∧Tr τ' ((.im 91 shItms,.im (l.map eItms),u)::L):=by
 simp only[wL]at hw
 refine BFun.row rfl ?_
 refine Jw Tryz.func192 rfl (by decide) Tryz.ntmps192 Tryz.results192 (by simp) ?_
 repeat' first|refine Z1 ?_|refine Z2 ?_|refine Z5 ?_|refine J04 (k:=l.length) rfl rfl (by omega) rfl rfl rfl rfl rfl rfl ?_|refine Zd ?_|refine Zo ?_|refine J6 ?_|refine J5 ?_
 refine Jq (ι:=Nat×List (List Value)×FH) (fun x_=>envL [(0,.d (.im (l.map eItms))),(3,.sl 1 1 0 l.length),(4,vi x_.1)]) (fun x_=>stL [some (.box x_.2.2),some (.row 1 91 1 (trv x_.2.1 (l.length-x_.1) [.d (.s (.slice none 0 0))]))]) (fun x_=>x_.1≤l.length∧x_.2.1.length=x_.1∧agrs shItms ((l.take x_.1).map eItms) x_.2.1∧Tr x_.2.2 (subss shItms ((l.take x_.1).map eItms) x_.2.1++L)) (fun x_=>l.length-x_.1) (0,[],τ) (⟨Nat.zero_le _,rfl,trivial,hT⟩) (Jj rfl ⟨.refl _,.refl _,.refl _,trivial⟩ ⟨⟨rfl,_,rfl,rfl⟩,⟨rfl,_,rfl,rfl,rfl,rfl,rfl⟩,trivial⟩) (fun _=>Nat.le_refl 2) ?_
 rintro⟨k,V,τ1⟩ ⟨i1,i2,i3,i4⟩
 simp only at i1 i2 i3 i4
 rcases hx:l[k]? with _|x
 ·have hle:=Jo hx
  have ek:decide ((k:Int)<(l.length:Int))=false:=J1 (by omega)
  repeat' first|refine Z1 ?_|refine Z2 ?_|refine Z5 ?_|refine Zd ?_|refine Zo ?_|refine J6 ?_|refine Zq ?_|refine Jh ?_|refine Jb ?_|refine J3 ?_|refine Ja ?_|refine Zv ?_|refine Zt ?_
  have e1:l.take k=l:=List.take_of_length_le hle
  rw[e1]at i3 i4
  refine⟨τ1,1,1,V,by simp,rfl,?_,i3,i4⟩
  show some (AO.row 1 _ _ (trv _ _ _))=_
  rw[show l.length-k=0 by omega,J4H];rfl
 ·obtain⟨hdr,hlt⟩:=Ji hx
  have hwx:=JE (w:=wL wItm) (List.mem_of_getElem? hx)
  have ek:decide ((k:Int)<(l.length:Int))=true:=J0 (by omega)
  repeat' first|refine Z1 ?_|refine Z2 ?_|refine Z5 ?_|refine Yxx ((J3J x (by simp only[wL]at hwx ⊢;omega) i4).at (i:=0) rfl) ?_|refine Zd ?_|refine Ze ?_|refine Zo ?_|refine J6 ?_|refine Jf ?_|refine Zp ?_|refine J5 ?_|refine J8 ?_|refine J3 ?_
  rintro A σ2 ⟨τ2,⟨u,rfl,t2⟩,rfl⟩
  obtain⟨ua,un,uc,rfl⟩:=t2.sl
  refine⟨_,rfl,?_⟩
  have n3:agrs shItms ((l.take (k+1)).map eItms) (V++[[.slice ua un uc]]):=by rw[JT hx,List.map_append];exact J0e i3 ⟨trivial,trivial⟩
  have n4:Tr τ2 (subss shItms ((l.take (k+1)).map eItms) (V++[[.slice ua un uc]])++L):=by
   rw[JT hx,List.map_append,J0d (by simp;omega)]
   refine t2.perm ?_
   show List.Perm _ ((_++[(.im 156 shItm,.im (x.map eItm),.slice ua un uc)])++L)
   rw[List.append_assoc]
   exact(List.perm_middle (l₁:=subss shItms ((l.take k).map eItms) V)).symm
  repeat' first|refine Z1 ?_|refine Z2 ?_|refine Z3 ?_|refine Z5 ?_|refine Jy rfl rfl hlt rfl rfl rfl rfl ?_|refine J6D (v:=[.slice ua un uc]) i2 hlt rfl rfl rfl rfl rfl rfl rfl ?_|refine Zf ?_|refine Jf ?_|refine J3 ?_|refine J4 ?_
  exact⟨(k+1,V++[[.slice ua un uc]],τ2),⟨hlt,by simp[i2],n3,n4⟩,by(try simp only);omega,Jl (Nat.le_of_ble_eq_true rfl) ⟨⟨rfl,rfl⟩,⟨rfl,rfl⟩,⟨rfl,rfl⟩,trivial⟩ ⟨⟨rfl,trivial⟩,⟨rfl,Je rfl,J6j _ _ _ rfl⟩,trivial⟩⟩
theorem J9g (x:Sm) (hw:wSm x≤1048576) {τ:FH} {L:List (Sh×D×Value)} (hT:Tr τ L):
  BFun X 159 [.agg ((eSm x).map .d)] τ fun A τ'=>∃v,A=.ret (.agg (v.map ex1))∧agr shSm (eSm x) v∧(v.map ex1).all AV.one=true∧Tr τ' (subs shSm (eSm x) v++L):=by
 simp only[wSm,wL]at hw
 refine BFun.words rfl ?_
 refine Jw Tryz.func159 rfl (by decide) Tryz.ntmps159 Tryz.results159 (by simp) ?_
 repeat' first|refine Z1 ?_|refine Z2 ?_|refine Z5 ?_|refine Yxx ((J2n x.outs (by simp only[wL];omega) hT).at (i:=0) rfl) ?_|refine Zo ?_
 rintro A σ2 ⟨τ1,⟨u1,rfl,t1⟩,rfl⟩
 obtain⟨ua1,un1,uc1,rfl⟩:=t1.sl
 refine⟨_,rfl,?_⟩
 repeat' first|refine Z1 ?_|refine Z2 ?_|refine Z5 ?_|refine Yxx ((J3J x.code (by simp only[wL];omega) t1).at (i:=0) rfl) ?_|refine Zo ?_
 rintro A σ2 ⟨τ2,⟨u2,rfl,t2⟩,rfl⟩
 obtain⟨ua2,un2,uc2,rfl⟩:=t2.sl
 refine⟨_,rfl,?_⟩
 repeat' first|refine Z1 ?_|refine Z2 ?_|refine Z5 ?_|refine Yxx ((J6y x.args (by simp only[wL];omega) t2).at (i:=0) rfl) ?_|refine Zo ?_
 rintro A σ2 ⟨τ3,⟨u3,rfl,t3⟩,rfl⟩
 obtain⟨ua3,un3,uc3,rfl⟩:=t3.sl
 refine⟨_,rfl,?_⟩
 repeat' first|refine Z1 ?_|refine Z2 ?_|refine Zo ?_|refine Jb ?_|refine Zu ?_
 have oo:([.int .i64 x.kind,.string x.name,.int .i64 x.pos,.slice ua1 un1 uc1,.slice ua2 un2 uc2,.slice ua3 un3 uc3].map ex1).all AV.one=true:=by
  simp only[List.map_cons,List.map_nil,List.all_cons,List.all_nil,Bool.and_true,Bool.and_eq_true]
  exact⟨rfl,rfl,rfl,rfl,rfl,rfl⟩
 refine⟨τ3,⟨[.int .i64 x.kind,.string x.name,.int .i64 x.pos,.slice ua1 un1 uc1,.slice ua2 un2 uc2,.slice ua3 un3 uc3],rfl,by simp[agr,eSm],oo,?_⟩,rfl,_,rfl,rfl⟩
 refine t3.perm ?_
 exact List.Perm.append_right L (show List.Perm (α:=Sh×D×Value) [(.im 91 shItms,.im (x.args.map eItms),.slice ua3 un3 uc3),(.im 156 shItm,.im (x.code.map eItm),.slice ua2 un2 uc2),(.im 9 shStr,.im (x.outs.map eStr),.slice ua1 un1 uc1)] [(.im 9 shStr,.im (x.outs.map eStr),.slice ua1 un1 uc1),(.im 156 shItm,.im (x.code.map eItm),.slice ua2 un2 uc2),(.im 91 shItms,.im (x.args.map eItms),.slice ua3 un3 uc3)]from List.reverse_perm (α:=Sh×D×Value) [(.im 9 shStr,.im (x.outs.map eStr),.slice ua1 un1 uc1),(.im 156 shItm,.im (x.code.map eItm),.slice ua2 un2 uc2),(.im 91 shItms,.im (x.args.map eItms),.slice ua3 un3 uc3)])
theorem J8f (l:List (Sm)) (hw:wL (wSm) l≤1048576) {τ:FH} {L:List (Sh×D×Value)} (hT:Tr τ L):
  BFun X 113 [.d (.im (l.map eSm))] τ fun A τ'=>∃u,A=.ret (.d (.s u))∧Tr τ' ((.im 96 shSm,.im (l.map eSm),u)::L):=by
 simp only[wL]at hw
 refine BFun.row rfl ?_
 refine Jw Tryz.func113 rfl (by decide) Tryz.ntmps113 Tryz.results113 (by simp) ?_
 repeat' first|refine Z1 ?_|refine Z2 ?_|refine Z5 ?_|refine J04 (k:=l.length) rfl rfl (by omega) rfl rfl rfl rfl rfl rfl ?_|refine Zd ?_|refine Zo ?_|refine J6 ?_|refine J5 ?_
 refine Jq (ι:=Nat×List (List Value)×FH) (fun x_=>envL [(0,.d (.im (l.map eSm))),(3,.sl 1 1 0 l.length),(4,vi x_.1)]) (fun x_=>stL [some (.box x_.2.2),some (.row 1 96 6 (trv x_.2.1 (l.length-x_.1) [.d (.s (.int .i64 0)),.d (.s (.string .empty)),.d (.s (.int .i64 0)),.d (.s (.slice none 0 0)),.d (.s (.slice none 0 0)),.d (.s (.slice none 0 0))]))]) (fun x_=>x_.1≤l.length∧x_.2.1.length=x_.1∧agrs shSm ((l.take x_.1).map eSm) x_.2.1∧Tr x_.2.2 (subss shSm ((l.take x_.1).map eSm) x_.2.1++L)) (fun x_=>l.length-x_.1) (0,[],τ) (⟨Nat.zero_le _,rfl,trivial,hT⟩) (Jj rfl ⟨.refl _,.refl _,.refl _,trivial⟩ ⟨⟨rfl,_,rfl,rfl⟩,⟨rfl,_,rfl,rfl,rfl,rfl,rfl⟩,trivial⟩) (fun _=>Nat.le_refl 2) ?_
 rintro⟨k,V,τ1⟩ ⟨i1,i2,i3,i4⟩
 simp only at i1 i2 i3 i4
 rcases hx:l[k]? with _|x
 ·have hle:=Jo hx
  have ek:decide ((k:Int)<(l.length:Int))=false:=J1 (by omega)
  repeat' first|refine Z1 ?_|refine Z2 ?_|refine Z5 ?_|refine Zd ?_|refine Zo ?_|refine J6 ?_|refine Zq ?_|refine Jh ?_|refine Jb ?_|refine J3 ?_|refine Ja ?_|refine Zv ?_|refine Zt ?_
  have e1:l.take k=l:=List.take_of_length_le hle
  rw[e1]at i3 i4
  refine⟨τ1,1,1,V,by simp,rfl,?_,i3,i4⟩
  show some (AO.row 1 _ _ (trv _ _ _))=_
  rw[show l.length-k=0 by omega,J4H];rfl
 ·obtain⟨hdr,hlt⟩:=Ji hx
  have hwx:=JE (w:=wSm) (List.mem_of_getElem? hx)
  have ek:decide ((k:Int)<(l.length:Int))=true:=J0 (by omega)
  repeat' first|refine Z1 ?_|refine Z2 ?_|refine Z5 ?_|refine Yxx ((J9g x (by omega) i4).at (i:=0) rfl) ?_|refine Zd ?_|refine Ze ?_|refine Zo ?_|refine J6 ?_|refine Jf ?_|refine Zp ?_|refine J5 ?_|refine J8 ?_|refine J3 ?_
  rintro A σ2 ⟨τ2,⟨v,rfl,a2,o2,t2⟩,rfl⟩
  refine⟨_,rfl,?_⟩
  have n3:agrs shSm ((l.take (k+1)).map eSm) (V++[v]):=by rw[JT hx,List.map_append];exact J0e i3 ⟨a2,trivial⟩
  have n4:Tr τ2 (subss shSm ((l.take (k+1)).map eSm) (V++[v])++L):=by
   rw[JT hx,List.map_append,J0d (by simp;omega)]
   refine t2.perm ?_
   show List.Perm _ ((_++(subs shSm (eSm x) v++[]))++L)
   rw[List.append_nil,←List.append_assoc]
   exact List.Perm.append_right _ List.perm_append_comm
  repeat' first|refine Z1 ?_|refine Z2 ?_|refine Z3 ?_|refine Z5 ?_|refine Jy rfl rfl hlt rfl rfl rfl rfl ?_|refine J6D (v:=v) i2 hlt rfl rfl rfl (J0l a2).2 o2 rfl rfl ?_|refine Zf ?_|refine Jf ?_|refine J3 ?_|refine J4 ?_
  exact⟨(k+1,V++[v],τ2),⟨hlt,by simp[i2],n3,n4⟩,by(try simp only);omega,Jl (Nat.le_of_ble_eq_true rfl) ⟨⟨rfl,rfl⟩,⟨rfl,rfl⟩,⟨rfl,rfl⟩,trivial⟩ ⟨⟨rfl,trivial⟩,⟨rfl,Je rfl,J6j _ _ _ rfl⟩,trivial⟩⟩
theorem J7g (x:Cls) (hw:wCls x≤1048576) {τ:FH} {L:List (Sh×D×Value)} (hT:Tr τ L):
  BFun X 69 [.agg ((eCls x).map .d)] τ fun A τ'=>∃v,A=.ret (.agg (v.map ex1))∧agr shCls (eCls x) v∧(v.map ex1).all AV.one=true∧Tr τ' (subs shCls (eCls x) v++L):=by
 simp only[wCls,wL]at hw
 refine BFun.words rfl ?_
 refine Jw Tryz.func69 rfl (by decide) Tryz.ntmps69 Tryz.results69 (by simp) ?_
 repeat' first|refine Z1 ?_|refine Z2 ?_|refine Z5 ?_|refine Yxx ((J3Y x.ins (by simp only[wL];omega) hT).at (i:=0) rfl) ?_|refine Zo ?_
 rintro A σ2 ⟨τ1,⟨u1,rfl,t1⟩,rfl⟩
 obtain⟨ua1,un1,uc1,rfl⟩:=t1.sl
 refine⟨_,rfl,?_⟩
 repeat' first|refine Z1 ?_|refine Z2 ?_|refine Z5 ?_|refine Yxx ((J3Y x.outs (by simp only[wL];omega) t1).at (i:=0) rfl) ?_|refine Zo ?_
 rintro A σ2 ⟨τ2,⟨u2,rfl,t2⟩,rfl⟩
 obtain⟨ua2,un2,uc2,rfl⟩:=t2.sl
 refine⟨_,rfl,?_⟩
 repeat' first|refine Z1 ?_|refine Z2 ?_|refine Z5 ?_|refine Yxx ((J2n x.locs (by simp only[wL];omega) t2).at (i:=0) rfl) ?_|refine Zo ?_
 rintro A σ2 ⟨τ3,⟨u3,rfl,t3⟩,rfl⟩
 obtain⟨ua3,un3,uc3,rfl⟩:=t3.sl
 refine⟨_,rfl,?_⟩
 repeat' first|refine Z1 ?_|refine Z2 ?_|refine Z5 ?_|refine Yxx ((J1F x.mems (by simp only[wL];omega) t3).at (i:=0) rfl) ?_|refine Zo ?_
 rintro A σ2 ⟨τ4,⟨u4,rfl,t4⟩,rfl⟩
 obtain⟨ua4,un4,uc4,rfl⟩:=t4.sl
 refine⟨_,rfl,?_⟩
 repeat' first|refine Z1 ?_|refine Z2 ?_|refine Z5 ?_|refine Yxx ((J1F x.insts (by simp only[wL];omega) t4).at (i:=0) rfl) ?_|refine Zo ?_
 rintro A σ2 ⟨τ5,⟨u5,rfl,t5⟩,rfl⟩
 obtain⟨ua5,un5,uc5,rfl⟩:=t5.sl
 refine⟨_,rfl,?_⟩
 repeat' first|refine Z1 ?_|refine Z2 ?_|refine Z5 ?_|refine Yxx ((J8f x.body (by simp only[wL];omega) t5).at (i:=0) rfl) ?_|refine Zo ?_
 rintro A σ2 ⟨τ6,⟨u6,rfl,t6⟩,rfl⟩
 obtain⟨ua6,un6,uc6,rfl⟩:=t6.sl
 refine⟨_,rfl,?_⟩
 repeat' first|refine Z1 ?_|refine Z2 ?_|refine Zo ?_|refine Jb ?_|refine Zu ?_
 have oo:([.string x.name,.slice ua1 un1 uc1,.slice ua2 un2 uc2,.slice ua3 un3 uc3,.slice ua4 un4 uc4,.slice ua5 un5 uc5,.slice ua6 un6 uc6].map ex1).all AV.one=true:=by
  simp only[List.map_cons,List.map_nil,List.all_cons,List.all_nil,Bool.and_true,Bool.and_eq_true]
  exact⟨rfl,rfl,rfl,rfl,rfl,rfl,rfl⟩
 refine⟨τ6,⟨[.string x.name,.slice ua1 un1 uc1,.slice ua2 un2 uc2,.slice ua3 un3 uc3,.slice ua4 un4 uc4,.slice ua5 un5 uc5,.slice ua6 un6 uc6],rfl,by simp[agr,eCls],oo,?_⟩,rfl,_,rfl,rfl⟩
 refine t6.perm ?_
 exact List.Perm.append_right L (show List.Perm (α:=Sh×D×Value) [(.im 96 shSm,.im (x.body.map eSm),.slice ua6 un6 uc6),(.im 3 shNum,.im (x.insts.map eNum),.slice ua5 un5 uc5),(.im 3 shNum,.im (x.mems.map eNum),.slice ua4 un4 uc4),(.im 9 shStr,.im (x.locs.map eStr),.slice ua3 un3 uc3),(.im 88 shSlt,.im (x.outs.map eSlt),.slice ua2 un2 uc2),(.im 88 shSlt,.im (x.ins.map eSlt),.slice ua1 un1 uc1)] [(.im 88 shSlt,.im (x.ins.map eSlt),.slice ua1 un1 uc1),(.im 88 shSlt,.im (x.outs.map eSlt),.slice ua2 un2 uc2),(.im 9 shStr,.im (x.locs.map eStr),.slice ua3 un3 uc3),(.im 3 shNum,.im (x.mems.map eNum),.slice ua4 un4 uc4),(.im 3 shNum,.im (x.insts.map eNum),.slice ua5 un5 uc5),(.im 96 shSm,.im (x.body.map eSm),.slice ua6 un6 uc6)]from List.reverse_perm (α:=Sh×D×Value) [(.im 88 shSlt,.im (x.ins.map eSlt),.slice ua1 un1 uc1),(.im 88 shSlt,.im (x.outs.map eSlt),.slice ua2 un2 uc2),(.im 9 shStr,.im (x.locs.map eStr),.slice ua3 un3 uc3),(.im 3 shNum,.im (x.mems.map eNum),.slice ua4 un4 uc4),(.im 3 shNum,.im (x.insts.map eNum),.slice ua5 un5 uc5),(.im 96 shSm,.im (x.body.map eSm),.slice ua6 un6 uc6)])
theorem J6s (l:List (Cls)) (hw:wL (wCls) l≤1048576) {τ:FH} {L:List (Sh×D×Value)} (hT:Tr τ L):
  BFun X 29 [.d (.im (l.map eCls))] τ fun A τ'=>∃u,A=.ret (.d (.s u))∧Tr τ' ((.im 53 shCls,.im (l.map eCls),u)::L):=by
 simp only[wL]at hw
 refine BFun.row rfl ?_
 refine Jw Tryz.func29 rfl (by decide) Tryz.ntmps29 Tryz.results29 (by simp) ?_
 repeat' first|refine Z1 ?_|refine Z2 ?_|refine Z5 ?_|refine J04 (k:=l.length) rfl rfl (by omega) rfl rfl rfl rfl rfl rfl ?_|refine Zd ?_|refine Zo ?_|refine J6 ?_|refine J5 ?_
 refine Jq (ι:=Nat×List (List Value)×FH) (fun x_=>envL [(0,.d (.im (l.map eCls))),(3,.sl 1 1 0 l.length),(4,vi x_.1)]) (fun x_=>stL [some (.box x_.2.2),some (.row 1 53 7 (trv x_.2.1 (l.length-x_.1) [.d (.s (.string .empty)),.d (.s (.slice none 0 0)),.d (.s (.slice none 0 0)),.d (.s (.slice none 0 0)),.d (.s (.slice none 0 0)),.d (.s (.slice none 0 0)),.d (.s (.slice none 0 0))]))]) (fun x_=>x_.1≤l.length∧x_.2.1.length=x_.1∧agrs shCls ((l.take x_.1).map eCls) x_.2.1∧Tr x_.2.2 (subss shCls ((l.take x_.1).map eCls) x_.2.1++L)) (fun x_=>l.length-x_.1) (0,[],τ) (⟨Nat.zero_le _,rfl,trivial,hT⟩) (Jj rfl ⟨.refl _,.refl _,.refl _,trivial⟩ ⟨⟨rfl,_,rfl,rfl⟩,⟨rfl,_,rfl,rfl,rfl,rfl,rfl⟩,trivial⟩) (fun _=>Nat.le_refl 2) ?_
 rintro⟨k,V,τ1⟩ ⟨i1,i2,i3,i4⟩
 simp only at i1 i2 i3 i4
 rcases hx:l[k]? with _|x
 ·have hle:=Jo hx
  have ek:decide ((k:Int)<(l.length:Int))=false:=J1 (by omega)
  repeat' first|refine Z1 ?_|refine Z2 ?_|refine Z5 ?_|refine Zd ?_|refine Zo ?_|refine J6 ?_|refine Zq ?_|refine Jh ?_|refine Jb ?_|refine J3 ?_|refine Ja ?_|refine Zv ?_|refine Zt ?_
  have e1:l.take k=l:=List.take_of_length_le hle
  rw[e1]at i3 i4
  refine⟨τ1,1,1,V,by simp,rfl,?_,i3,i4⟩
  show some (AO.row 1 _ _ (trv _ _ _))=_
  rw[show l.length-k=0 by omega,J4H];rfl
 ·obtain⟨hdr,hlt⟩:=Ji hx
  have hwx:=JE (w:=wCls) (List.mem_of_getElem? hx)
  have ek:decide ((k:Int)<(l.length:Int))=true:=J0 (by omega)
  repeat' first|refine Z1 ?_|refine Z2 ?_|refine Z5 ?_|refine Yxx ((J7g x (by omega) i4).at (i:=0) rfl) ?_|refine Zd ?_|refine Ze ?_|refine Zo ?_|refine J6 ?_|refine Jf ?_|refine Zp ?_|refine J5 ?_|refine J8 ?_|refine J3 ?_
  rintro A σ2 ⟨τ2,⟨v,rfl,a2,o2,t2⟩,rfl⟩
  refine⟨_,rfl,?_⟩
  have n3:agrs shCls ((l.take (k+1)).map eCls) (V++[v]):=by rw[JT hx,List.map_append];exact J0e i3 ⟨a2,trivial⟩
  have n4:Tr τ2 (subss shCls ((l.take (k+1)).map eCls) (V++[v])++L):=by
   rw[JT hx,List.map_append,J0d (by simp;omega)]
   refine t2.perm ?_
   show List.Perm _ ((_++(subs shCls (eCls x) v++[]))++L)
   rw[List.append_nil,←List.append_assoc]
   exact List.Perm.append_right _ List.perm_append_comm
  repeat' first|refine Z1 ?_|refine Z2 ?_|refine Z3 ?_|refine Z5 ?_|refine Jy rfl rfl hlt rfl rfl rfl rfl ?_|refine J6D (v:=v) i2 hlt rfl rfl rfl (J0l a2).2 o2 rfl rfl ?_|refine Zf ?_|refine Jf ?_|refine J3 ?_|refine J4 ?_
  exact⟨(k+1,V++[v],τ2),⟨hlt,by simp[i2],n3,n4⟩,by(try simp only);omega,Jl (Nat.le_of_ble_eq_true rfl) ⟨⟨rfl,rfl⟩,⟨rfl,rfl⟩,⟨rfl,rfl⟩,trivial⟩ ⟨⟨rfl,trivial⟩,⟨rfl,Je rfl,J6j _ _ _ rfl⟩,trivial⟩⟩
theorem J5u (l:List Cls) (hw:wL wCls l≤1048576) {τ:FH} {L:List (Sh×D×Value)} (hT:Tr τ L):
  BFun X 9 [.agg [.d (.im (l.map eCls))]] τ fun A τ'=>∃u,A=.ret (.agg [.d (.s u)])∧Tr τ' ((.im 53 shCls,.im (l.map eCls),u)::L):=by
 refine BFun.words rfl ?_
 refine Jw Tryz.func9 rfl (by decide) Tryz.ntmps9 Tryz.results9 (by simp) ?_
 repeat' first|refine Z1 ?_|refine Z2 ?_|refine Z5 ?_|refine Yxx ((J6s l hw hT).at (i:=0) rfl) ?_|refine Zo ?_
 rintro A σ2 ⟨τ1,⟨u,rfl,t1⟩,rfl⟩
 obtain⟨ua,un,uc,rfl⟩:=t1.sl
 refine⟨_,rfl,?_⟩
 repeat' first|refine Z1 ?_|refine Z2 ?_|refine Zo ?_|refine Jb ?_|refine Zu ?_
 exact⟨τ1,⟨_,rfl,t1⟩,rfl,_,rfl,rfl⟩
end Go.Pm
/- Part of the proof: Mk2. -/
namespace Go.Pm
attribute [local irreducible] AR Ok inBlock andThen endQ aoper
set_option maxHeartbeats 1000000
open Go.Proofs
theorem J0N (k:Int) (h1:1≤k) (h2:k≤1099511627776):PFun X 74 [vi k] (vs (markT k)):=by
 have e0:decide (k≤0)=false:=J1 (by omega)
 obtain⟨n,rfl⟩:∃n:Nat,k=(n:Int):=⟨k.toNat,by omega⟩
 refine Jn Tryz.func74 rfl (by decide) Tryz.ntmps74 Tryz.results74 (by simp) rfl rfl ?_
 repeat' first|refine Z1 ?_|refine Z2 ?_|refine Z3 ?_|refine Z4 ?_|refine Z5 ?_|refine Z6 ?_|refine Z7 ?_|refine Z8 ?_|refine Z9 ?_|refine Za (fun hc=>?_) (fun hc=>?_)|refine Zb (fun hc=>?_) (fun hc=>?_)|refine Zd ?_|refine Ze ?_|refine Zf ?_|refine Zg ?_|refine Zh ?_|refine Zi ?_|refine Zj ?_|refine Zk ?_|refine Zl ?_|refine Zm ?_|refine Zn (fun hc=>?_) (fun hc=>?_)|refine Zo ?_|refine J6 ?_|refine Jf ?_|refine Zp ?_|refine Zq ?_|refine Zr (fun hc=>?_) (fun hc=>?_)|refine J5 ?_|refine Jh ?_|refine J8 ?_|refine Jb ?_|refine J3 ?_|refine Ja ?_|refine Zs ?_|refine Zv ?_|refine J7 ?_|refine J9 ?_|refine J4 ?_|refine Zt ?_|refine Zu ?_
 refine Jq (ι:=Nat×ByteArray) (fun x_=>envL [(0,vi x_.1),(3,vs x_.2)]) (fun x_=>stL []) (fun x_=>digs x_.1++x_.2=itoaB (n:Int)∧x_.1≤n) (fun x_=>x_.1) (n,B []) (⟨by rw[Jcc];unfold digs;rw[if_neg (by omega)],Nat.le_refl _⟩) (Jj rfl ⟨.refl _,.refl _,trivial⟩ trivial) (fun _=>Nat.le_refl 0) ?_
 rintro⟨k,u⟩ ⟨i1,i2⟩
 simp only at i1 i2
 have hz:=Ja1 (n:Int) (by omega) (by omega)
 have hu:u.size≤21:=by have:=congrArg ByteArray.size i1;rw[ByteArray.size_append]at this;omega
 by_cases hk:0<k
 ·have ek:decide (0<(k:Int))=true:=J0 (by omega)
  have q1:(k:Int).tdiv 10=((k / 10:Nat):Int):=by rw[Int.tdiv_eq_ediv_of_nonneg (by omega)];omega
  have q2:(k:Int).tmod 10=((k % 10:Nat):Int):=by rw[Int.tmod_eq_emod_of_nonneg (by omega)];omega
  have q3:IntKind.i64.wrap ((k:Int).tdiv 10)=((k / 10:Nat):Int):=by rw[q1];exact J1n (by omega) (by omega)
  have hb:byteRows (B [UInt8.ofNat (48+k % 10)])=[[.d (.s (.int .u8 (IntKind.u8.wrap (IntKind.i64.wrap (48+(k:Int).tmod 10)))))]]:=by
   rw[q2,J1n (by omega) (by omega)]
   have hm:k % 10<10:=Nat.mod_lt _ (by decide)
   generalize k % 10=m at hm
   match m,hm with|0,_=>rfl|1,_=>rfl|2,_=>rfl|3,_=>rfl|4,_=>rfl|5,_=>rfl|6,_=>rfl|7,_=>rfl|8,_=>rfl|9,_=>rfl
  have hz2:(B [UInt8.ofNat (48+k % 10)]++u).size≤9223372036854775807:=by
   rw[ByteArray.size_append]
   have:(B [UInt8.ofNat (48+k % 10)]).size=1:=rfl
   omega
  repeat' first|refine Up (w:=B [UInt8.ofNat (48+k % 10)]) (i:=0) (v:=0) rfl (by rw[hb];rfl) ?_|refine Z1 ?_|refine Z2 ?_|refine Z3 ?_|refine Z5 ?_|refine Z6 ?_|refine Z7 ?_|refine Z8 ?_|refine Z9 ?_|refine Za (fun hc=>?_) (fun hc=>?_)|refine Zb (fun hc=>?_) (fun hc=>?_)|refine Ycv ?_|refine Yw (sz:=1) ?_|refine Ul (a:=B [UInt8.ofNat (48+k % 10)]) (b:=u) (hb:=hz2) ?_|refine Zd ?_|refine Ze ?_|refine Zf ?_|refine Zg ?_|refine Zh ?_|refine Zi ?_|refine Zj ?_|refine Zk ?_|refine Zl ?_|refine Zm ?_|refine Zn (fun hc=>?_) (fun hc=>?_)|refine Zo ?_|refine J6 ?_|refine Jf ?_|refine Zp ?_|refine Zq ?_|refine Zr (fun hc=>?_) (fun hc=>?_)|refine J5 ?_|refine Jh ?_|refine J8 ?_|refine Jb ?_|refine J3 ?_|refine Ja ?_|refine Zs ?_|refine Zv ?_|refine J7 ?_|refine J9 ?_|refine J4 ?_|refine Zt ?_|refine Zu ?_
  rw[q3]
  exact⟨(k / 10,B [UInt8.ofNat (48+k % 10)]++u),⟨by rw[←JaM,←J9y hk];exact i1,Nat.le_trans (Nat.div_le_self _ _) i2⟩,by(try simp only);omega,Jl (Nat.zero_le _) ⟨⟨rfl,rfl⟩,⟨rfl,rfl⟩,trivial⟩ trivial⟩
 ·have ek:decide (0<(k:Int))=false:=J1 (by omega)
  have:k=0:=by omega
  subst this
  have i1:u=itoaB (n:Int):=by rw[←i1];unfold digs;rw[if_pos rfl,JaG]
  subst i1
  repeat' first|refine Z1 ?_|refine Z2 ?_|refine Z3 ?_|refine Z4 ?_|refine Z5 ?_|refine Z6 ?_|refine Z7 ?_|refine Z8 ?_|refine Z9 ?_|refine Za (fun hc=>?_) (fun hc=>?_)|refine Zb (fun hc=>?_) (fun hc=>?_)|refine Ul (a:=B [109]) (b:=itoaB (n:Int)) (hb:=by rw[ByteArray.size_append];have:(B [109]).size=1:=rfl;omega) ?_|refine Zd ?_|refine Ze ?_|refine Zf ?_|refine Zg ?_|refine Zh ?_|refine Zi ?_|refine Zj ?_|refine Zk ?_|refine Zl ?_|refine Zm ?_|refine Zn (fun hc=>?_) (fun hc=>?_)|refine Zo ?_|refine J6 ?_|refine Jf ?_|refine Zp ?_|refine Zq ?_|refine Zr (fun hc=>?_) (fun hc=>?_)|refine J5 ?_|refine Jh ?_|refine J8 ?_|refine Jb ?_|refine J3 ?_|refine Ja ?_|refine Zs ?_|refine Zv ?_|refine J7 ?_|refine J9 ?_|refine J4 ?_|refine Zt ?_|refine Zu ?_
  rfl
end Go.Pm
