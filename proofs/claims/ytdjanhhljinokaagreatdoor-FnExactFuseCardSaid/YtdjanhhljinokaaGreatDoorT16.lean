/- Part of the proof: Owm. -/
import Derived.Test.YtdjanhhljinokaaGreatDoorT12
import Derived.Test.YtdjanhhljinokaaGreatDoorT15
import Derived.Test.YtdjanhhljinokaaGreatDoorT13
set_option linter.unusedVariables false
set_option linter.unusedSimpArgs false
namespace Go.Pm
attribute [local irreducible] AR Ok inBlock andThen endQ aoper
set_option maxHeartbeats 1000000
open Go.Proofs
abbrev shStr:List Sh:=[.w]
abbrev shNum:List Sh:=[.w]
abbrev shItm:List Sh:=[.w,.w,.w]
abbrev shSlt:List Sh:=[.w,.w]
abbrev shItms:List Sh:=[.im 156 shItm]
abbrev shSm:List Sh:=[.w,.w,.w,.im 9 shStr,.im 156 shItm,.im 91 shItms]
abbrev shCls:List Sh:=[.w,.im 88 shSlt,.im 88 shSlt,.im 9 shStr,.im 3 shNum,.im 3 shNum,.im 96 shSm]
def vStr (x:ByteArray):List Value:=[.string x]
theorem J48 (x:ByteArray):agr shStr (eStr x) (vStr x):=by simp[agr,eStr,vStr]
theorem J1f:Words shStr:=J0p (J2b)
def vNum (x:Int):List Value:=[.int .i64 x]
theorem J4O (x:Int):agr shNum (eNum x) (vNum x):=by simp[agr,eNum,vNum]
theorem J1k:Words shNum:=J0p (J2b)
def vItm (x:Itm):List Value:=[.int .i64 x.op,.int .i64 x.val,.string x.name]
theorem J4y (x:Itm):agr shItm (eItm x) (vItm x):=by simp[agr,eItm,vItm]
theorem J1i:Words shItm:=J0p (J0p (J0p (J2b)))
def vSlt (x:Slt):List Value:=[.string x.name,.int .i64 x.type]
theorem J4C (x:Slt):agr shSlt (eSlt x) (vSlt x):=by simp[agr,eSlt,vSlt]
theorem J1l:Words shSlt:=J0p (J0p (J2b))
theorem J2f (l:List (ByteArray)) (hw:wL (wStr) l≤1048576) {τ:FH} {L:List (Sh×D×Value)} (hT:Tr τ L):
  BFun X 112 [.d (.im (l.map eStr))] τ fun A τ'=>∃u,A=.ret (.d (.s u))∧Tr τ' ((.im 9 shStr,.im (l.map eStr),u)::L):=by
 simp only[wL]at hw
 refine BFun.row rfl ?_
 refine Jx Tryz.func112 rfl (by decide) Tryz.ntmps112 Tryz.results112 (by simp) ?_
 repeat' first|refine Z1 ?_|refine Z2 ?_|refine Z5 ?_|refine J0f (k:=l.length) rfl rfl (by omega) rfl rfl rfl rfl rfl rfl ?_|refine Zd ?_|refine Zo ?_|refine J5 ?_|refine J4 ?_
 refine Jo (ι:=Nat) (fun x=>envL [(0,.d (.im (l.map eStr))),(3,.sl 1 1 0 l.length),(4,vi x)]) (fun x=>stL [some (.box τ),some (.row 1 9 1 (trk eStr l x [.d (.s (.string .empty))]))]) (fun x=>x≤l.length) (fun x=>l.length-x) 0 (Nat.zero_le _) (Jg rfl ⟨.refl _,.refl _,.refl _,trivial⟩ ⟨⟨rfl,_,rfl,rfl⟩,⟨rfl,_,rfl,rfl,rfl,rfl,rfl⟩,trivial⟩) (fun _=>Nat.le_refl 2) ?_
 intro k i1
 rcases hx:l[k]? with _|x
 ·have hle:=Jk hx
  have ek:decide ((k:Int)<(l.length:Int))=false:=J1 (by omega)
  repeat' first|refine Z1 ?_|refine Z2 ?_|refine Z5 ?_|refine Zd ?_|refine Zo ?_|refine J5 ?_|refine Zq ?_|refine Jf ?_|refine J9 ?_|refine J3 ?_|refine Jb ?_|refine Zv ?_|refine Zt ?_
  refine⟨τ,1,1,l.map vStr,by simp,rfl,?_,JM J48 l,by rw[JH J1f];exact hT⟩
  show some (AO.row 1 _ _ (trk _ _ _ _))=_
  rw[J0x hle,J0m (v:=vStr) (fun x=>rfl)];rfl
 ·obtain⟨hdr,hlt⟩:=Jc hx
  have hwx:=Jz (w:=wStr) (List.mem_of_getElem? hx)
  have ek:decide ((k:Int)<(l.length:Int))=true:=J0 (by omega)
  repeat' first|refine Z1 ?_|refine Z2 ?_|refine Z3 ?_|refine Z5 ?_|refine Jv rfl rfl hlt rfl rfl rfl rfl ?_|refine J0t hx rfl rfl rfl rfl rfl rfl rfl rfl ?_|refine Zd ?_|refine Ze ?_|refine Zf ?_|refine Zo ?_|refine J5 ?_|refine Jd ?_|refine Zp ?_|refine J4 ?_|refine J7 ?_|refine J3 ?_|refine J6 ?_
  exact⟨k+1,hlt,by(try simp only);omega,Jh (Nat.le_of_ble_eq_true rfl) ⟨⟨rfl,rfl⟩,⟨rfl,rfl⟩,⟨rfl,rfl⟩,trivial⟩ ⟨⟨rfl,trivial⟩,⟨rfl,Je rfl,J0y _ _ _ _ rfl⟩,trivial⟩⟩
theorem J49 (l:List (Int)) (hw:wL (wNum0) l≤1048576) {τ:FH} {L:List (Sh×D×Value)} (hT:Tr τ L):
  BFun X 10 [.d (.im (l.map eNum))] τ fun A τ'=>∃u,A=.ret (.d (.s u))∧Tr τ' ((.im 3 shNum,.im (l.map eNum),u)::L):=by
 simp only[wL]at hw
 refine BFun.row rfl ?_
 refine Jx Tryz.func10 rfl (by decide) Tryz.ntmps10 Tryz.results10 (by simp) ?_
 repeat' first|refine Z1 ?_|refine Z2 ?_|refine Z5 ?_|refine J0f (k:=l.length) rfl rfl (by omega) rfl rfl rfl rfl rfl rfl ?_|refine Zd ?_|refine Zo ?_|refine J5 ?_|refine J4 ?_
 refine Jo (ι:=Nat) (fun x=>envL [(0,.d (.im (l.map eNum))),(3,.sl 1 1 0 l.length),(4,vi x)]) (fun x=>stL [some (.box τ),some (.row 1 3 1 (trk eNum l x [.d (.s (.int .i64 0))]))]) (fun x=>x≤l.length) (fun x=>l.length-x) 0 (Nat.zero_le _) (Jg rfl ⟨.refl _,.refl _,.refl _,trivial⟩ ⟨⟨rfl,_,rfl,rfl⟩,⟨rfl,_,rfl,rfl,rfl,rfl,rfl⟩,trivial⟩) (fun _=>Nat.le_refl 2) ?_
 intro k i1
 rcases hx:l[k]? with _|x
 ·have hle:=Jk hx
  have ek:decide ((k:Int)<(l.length:Int))=false:=J1 (by omega)
  repeat' first|refine Z1 ?_|refine Z2 ?_|refine Z5 ?_|refine Zd ?_|refine Zo ?_|refine J5 ?_|refine Zq ?_|refine Jf ?_|refine J9 ?_|refine J3 ?_|refine Jb ?_|refine Zv ?_|refine Zt ?_
  refine⟨τ,1,1,l.map vNum,by simp,rfl,?_,JM J4O l,by rw[JH J1k];exact hT⟩
  show some (AO.row 1 _ _ (trk _ _ _ _))=_
  rw[J0x hle,J0m (v:=vNum) (fun x=>rfl)];rfl
 ·obtain⟨hdr,hlt⟩:=Jc hx
  have hwx:=Jz (w:=wNum0) (List.mem_of_getElem? hx)
  have ek:decide ((k:Int)<(l.length:Int))=true:=J0 (by omega)
  repeat' first|refine Z1 ?_|refine Z2 ?_|refine Z3 ?_|refine Z5 ?_|refine Jv rfl rfl hlt rfl rfl rfl rfl ?_|refine J0t hx rfl rfl rfl rfl rfl rfl rfl rfl ?_|refine Zd ?_|refine Ze ?_|refine Zf ?_|refine Zo ?_|refine J5 ?_|refine Jd ?_|refine Zp ?_|refine J4 ?_|refine J7 ?_|refine J3 ?_|refine J6 ?_
  exact⟨k+1,hlt,by(try simp only);omega,Jh (Nat.le_of_ble_eq_true rfl) ⟨⟨rfl,rfl⟩,⟨rfl,rfl⟩,⟨rfl,rfl⟩,trivial⟩ ⟨⟨rfl,trivial⟩,⟨rfl,Je rfl,J0y _ _ _ _ rfl⟩,trivial⟩⟩
theorem J3p (l:List (Itm)) (hw:wL (wItm) l≤1048576) {τ:FH} {L:List (Sh×D×Value)} (hT:Tr τ L):
  BFun X 191 [.d (.im (l.map eItm))] τ fun A τ'=>∃u,A=.ret (.d (.s u))∧Tr τ' ((.im 156 shItm,.im (l.map eItm),u)::L):=by
 simp only[wL]at hw
 refine BFun.row rfl ?_
 refine Jx Tryz.func191 rfl (by decide) Tryz.ntmps191 Tryz.results191 (by simp) ?_
 repeat' first|refine Z1 ?_|refine Z2 ?_|refine Z5 ?_|refine J0f (k:=l.length) rfl rfl (by omega) rfl rfl rfl rfl rfl rfl ?_|refine Zd ?_|refine Zo ?_|refine J5 ?_|refine J4 ?_
 refine Jo (ι:=Nat) (fun x=>envL [(0,.d (.im (l.map eItm))),(3,.sl 1 1 0 l.length),(4,vi x)]) (fun x=>stL [some (.box τ),some (.row 1 156 3 (trk eItm l x [.d (.s (.int .i64 0)),.d (.s (.int .i64 0)),.d (.s (.string .empty))]))]) (fun x=>x≤l.length) (fun x=>l.length-x) 0 (Nat.zero_le _) (Jg rfl ⟨.refl _,.refl _,.refl _,trivial⟩ ⟨⟨rfl,_,rfl,rfl⟩,⟨rfl,_,rfl,rfl,rfl,rfl,rfl⟩,trivial⟩) (fun _=>Nat.le_refl 2) ?_
 intro k i1
 rcases hx:l[k]? with _|x
 ·have hle:=Jk hx
  have ek:decide ((k:Int)<(l.length:Int))=false:=J1 (by omega)
  repeat' first|refine Z1 ?_|refine Z2 ?_|refine Z5 ?_|refine Zd ?_|refine Zo ?_|refine J5 ?_|refine Zq ?_|refine Jf ?_|refine J9 ?_|refine J3 ?_|refine Jb ?_|refine Zv ?_|refine Zt ?_
  refine⟨τ,1,1,l.map vItm,by simp,rfl,?_,JM J4y l,by rw[JH J1i];exact hT⟩
  show some (AO.row 1 _ _ (trk _ _ _ _))=_
  rw[J0x hle,J0m (v:=vItm) (fun x=>rfl)];rfl
 ·obtain⟨hdr,hlt⟩:=Jc hx
  have hwx:=Jz (w:=wItm) (List.mem_of_getElem? hx)
  have ek:decide ((k:Int)<(l.length:Int))=true:=J0 (by omega)
  repeat' first|refine Z1 ?_|refine Z2 ?_|refine Z3 ?_|refine Z5 ?_|refine Jv rfl rfl hlt rfl rfl rfl rfl ?_|refine J0t hx rfl rfl rfl rfl rfl rfl rfl rfl ?_|refine Zc (J5J x (by omega)) ?_|refine Zd ?_|refine Ze ?_|refine Zf ?_|refine Zo ?_|refine J5 ?_|refine Jd ?_|refine Zp ?_|refine J4 ?_|refine J7 ?_|refine J3 ?_|refine J6 ?_
  exact⟨k+1,hlt,by(try simp only);omega,Jh (Nat.le_of_ble_eq_true rfl) ⟨⟨rfl,rfl⟩,⟨rfl,rfl⟩,⟨rfl,rfl⟩,trivial⟩ ⟨⟨rfl,trivial⟩,⟨rfl,Je rfl,J0y _ _ _ _ rfl⟩,trivial⟩⟩
theorem J3y (l:List (Slt)) (hw:wL (wSlt) l≤1048576) {τ:FH} {L:List (Sh×D×Value)} (hT:Tr τ L):
  BFun X 111 [.d (.im (l.map eSlt))] τ fun A τ'=>∃u,A=.ret (.d (.s u))∧Tr τ' ((.im 88 shSlt,.im (l.map eSlt),u)::L):=by
 simp only[wL]at hw
 refine BFun.row rfl ?_
 refine Jx Tryz.func111 rfl (by decide) Tryz.ntmps111 Tryz.results111 (by simp) ?_
 repeat' first|refine Z1 ?_|refine Z2 ?_|refine Z5 ?_|refine J0f (k:=l.length) rfl rfl (by omega) rfl rfl rfl rfl rfl rfl ?_|refine Zd ?_|refine Zo ?_|refine J5 ?_|refine J4 ?_
 refine Jo (ι:=Nat) (fun x=>envL [(0,.d (.im (l.map eSlt))),(3,.sl 1 1 0 l.length),(4,vi x)]) (fun x=>stL [some (.box τ),some (.row 1 88 2 (trk eSlt l x [.d (.s (.string .empty)),.d (.s (.int .i64 0))]))]) (fun x=>x≤l.length) (fun x=>l.length-x) 0 (Nat.zero_le _) (Jg rfl ⟨.refl _,.refl _,.refl _,trivial⟩ ⟨⟨rfl,_,rfl,rfl⟩,⟨rfl,_,rfl,rfl,rfl,rfl,rfl⟩,trivial⟩) (fun _=>Nat.le_refl 2) ?_
 intro k i1
 rcases hx:l[k]? with _|x
 ·have hle:=Jk hx
  have ek:decide ((k:Int)<(l.length:Int))=false:=J1 (by omega)
  repeat' first|refine Z1 ?_|refine Z2 ?_|refine Z5 ?_|refine Zd ?_|refine Zo ?_|refine J5 ?_|refine Zq ?_|refine Jf ?_|refine J9 ?_|refine J3 ?_|refine Jb ?_|refine Zv ?_|refine Zt ?_
  refine⟨τ,1,1,l.map vSlt,by simp,rfl,?_,JM J4C l,by rw[JH J1l];exact hT⟩
  show some (AO.row 1 _ _ (trk _ _ _ _))=_
  rw[J0x hle,J0m (v:=vSlt) (fun x=>rfl)];rfl
 ·obtain⟨hdr,hlt⟩:=Jc hx
  have hwx:=Jz (w:=wSlt) (List.mem_of_getElem? hx)
  have ek:decide ((k:Int)<(l.length:Int))=true:=J0 (by omega)
  repeat' first|refine Z1 ?_|refine Z2 ?_|refine Z3 ?_|refine Z5 ?_|refine Jv rfl rfl hlt rfl rfl rfl rfl ?_|refine J0t hx rfl rfl rfl rfl rfl rfl rfl rfl ?_|refine Zc (J59 x (by omega)) ?_|refine Zd ?_|refine Ze ?_|refine Zf ?_|refine Zo ?_|refine J5 ?_|refine Jd ?_|refine Zp ?_|refine J4 ?_|refine J7 ?_|refine J3 ?_|refine J6 ?_
  exact⟨k+1,hlt,by(try simp only);omega,Jh (Nat.le_of_ble_eq_true rfl) ⟨⟨rfl,rfl⟩,⟨rfl,rfl⟩,⟨rfl,rfl⟩,trivial⟩ ⟨⟨rfl,trivial⟩,⟨rfl,Je rfl,J0y _ _ _ _ rfl⟩,trivial⟩⟩
theorem J63 (l:List (List Itm)) (hw:wL (wL wItm) l≤1048576) {τ:FH} {L:List (Sh×D×Value)} (hT:Tr τ L):
  BFun X 192 [.d (.im (l.map eItms))] τ fun A τ'=>∃u,A=.ret (.d (.s u))∧Tr τ' ((.im 91 shItms,.im (l.map eItms),u)::L):=by
 simp only[wL]at hw
 refine BFun.row rfl ?_
 refine Jx Tryz.func192 rfl (by decide) Tryz.ntmps192 Tryz.results192 (by simp) ?_
 repeat' first|refine Z1 ?_|refine Z2 ?_|refine Z5 ?_|refine J0f (k:=l.length) rfl rfl (by omega) rfl rfl rfl rfl rfl rfl ?_|refine Zd ?_|refine Zo ?_|refine J5 ?_|refine J4 ?_
 refine Jo (ι:=Nat×List (List Value)×FH) (fun x_=>envL [(0,.d (.im (l.map eItms))),(3,.sl 1 1 0 l.length),(4,vi x_.1)]) (fun x_=>stL [some (.box x_.2.2),some (.row 1 91 1 (trv x_.2.1 (l.length-x_.1) [.d (.s (.slice none 0 0))]))]) (fun x_=>x_.1≤l.length∧x_.2.1.length=x_.1∧agrs shItms ((l.take x_.1).map eItms) x_.2.1∧Tr x_.2.2 (subss shItms ((l.take x_.1).map eItms) x_.2.1++L)) (fun x_=>l.length-x_.1) (0,[],τ) (⟨Nat.zero_le _,rfl,trivial,hT⟩) (Jg rfl ⟨.refl _,.refl _,.refl _,trivial⟩ ⟨⟨rfl,_,rfl,rfl⟩,⟨rfl,_,rfl,rfl,rfl,rfl,rfl⟩,trivial⟩) (fun _=>Nat.le_refl 2) ?_
 rintro⟨k,V,τ1⟩ ⟨i1,i2,i3,i4⟩
 simp only at i1 i2 i3 i4
 rcases hx:l[k]? with _|x
 ·have hle:=Jk hx
  have ek:decide ((k:Int)<(l.length:Int))=false:=J1 (by omega)
  repeat' first|refine Z1 ?_|refine Z2 ?_|refine Z5 ?_|refine Zd ?_|refine Zo ?_|refine J5 ?_|refine Zq ?_|refine Jf ?_|refine J9 ?_|refine J3 ?_|refine Jb ?_|refine Zv ?_|refine Zt ?_
  have e1:l.take k=l:=List.take_of_length_le hle
  rw[e1]at i3 i4
  refine⟨τ1,1,1,V,by simp,rfl,?_,i3,i4⟩
  show some (AO.row 1 _ _ (trv _ _ _))=_
  rw[show l.length-k=0 by omega,J42];rfl
 ·obtain⟨hdr,hlt⟩:=Jc hx
  have hwx:=Jz (w:=wL wItm) (List.mem_of_getElem? hx)
  have ek:decide ((k:Int)<(l.length:Int))=true:=J0 (by omega)
  repeat' first|refine Z1 ?_|refine Z2 ?_|refine Z5 ?_|refine Yxx ((J3p x (by simp only[wL]at hwx ⊢;omega) i4).at (i:=0) rfl) ?_|refine Zd ?_|refine Ze ?_|refine Zo ?_|refine J5 ?_|refine Jd ?_|refine Zp ?_|refine J4 ?_|refine J7 ?_|refine J3 ?_
  rintro A σ2 ⟨τ2,⟨u,rfl,t2⟩,rfl⟩
  obtain⟨ua,un,uc,rfl⟩:=t2.sl
  refine⟨_,rfl,?_⟩
  have n3:agrs shItms ((l.take (k+1)).map eItms) (V++[[.slice ua un uc]]):=by rw[J03 hx,List.map_append];exact J07 i3 ⟨trivial,trivial⟩
  have n4:Tr τ2 (subss shItms ((l.take (k+1)).map eItms) (V++[[.slice ua un uc]])++L):=by
   rw[J03 hx,List.map_append,JY (by simp;omega)]
   refine t2.perm ?_
   show List.Perm _ ((_++[(.im 156 shItm,.im (x.map eItm),.slice ua un uc)])++L)
   rw[List.append_assoc]
   exact(List.perm_middle (l₁:=subss shItms ((l.take k).map eItms) V)).symm
  repeat' first|refine Z1 ?_|refine Z2 ?_|refine Z3 ?_|refine Z5 ?_|refine Jv rfl rfl hlt rfl rfl rfl rfl ?_|refine J66 (v:=[.slice ua un uc]) i2 hlt rfl rfl rfl rfl rfl rfl rfl ?_|refine Zf ?_|refine Jd ?_|refine J3 ?_|refine J6 ?_
  exact⟨(k+1,V++[[.slice ua un uc]],τ2),⟨hlt,by simp[i2],n3,n4⟩,by(try simp only);omega,Jh (Nat.le_of_ble_eq_true rfl) ⟨⟨rfl,rfl⟩,⟨rfl,rfl⟩,⟨rfl,rfl⟩,trivial⟩ ⟨⟨rfl,trivial⟩,⟨rfl,Je rfl,J5U _ _ _ rfl⟩,trivial⟩⟩
theorem J8f (x:Sm) (hw:wSm x≤1048576) {τ:FH} {L:List (Sh×D×Value)} (hT:Tr τ L):
  BFun X 159 [.agg ((eSm x).map .d)] τ fun A τ'=>∃v,A=.ret (.agg (v.map ex1))∧agr shSm (eSm x) v∧(v.map ex1).all AV.one=true∧Tr τ' (subs shSm (eSm x) v++L):=by
 simp only[wSm,wL]at hw
 refine BFun.words rfl ?_
 refine Jx Tryz.func159 rfl (by decide) Tryz.ntmps159 Tryz.results159 (by simp) ?_
 repeat' first|refine Z1 ?_|refine Z2 ?_|refine Z5 ?_|refine Yxx ((J2f x.outs (by simp only[wL];omega) hT).at (i:=0) rfl) ?_|refine Zo ?_
 rintro A σ2 ⟨τ1,⟨u1,rfl,t1⟩,rfl⟩
 obtain⟨ua1,un1,uc1,rfl⟩:=t1.sl
 refine⟨_,rfl,?_⟩
 repeat' first|refine Z1 ?_|refine Z2 ?_|refine Z5 ?_|refine Yxx ((J3p x.code (by simp only[wL];omega) t1).at (i:=0) rfl) ?_|refine Zo ?_
 rintro A σ2 ⟨τ2,⟨u2,rfl,t2⟩,rfl⟩
 obtain⟨ua2,un2,uc2,rfl⟩:=t2.sl
 refine⟨_,rfl,?_⟩
 repeat' first|refine Z1 ?_|refine Z2 ?_|refine Z5 ?_|refine Yxx ((J63 x.args (by simp only[wL];omega) t2).at (i:=0) rfl) ?_|refine Zo ?_
 rintro A σ2 ⟨τ3,⟨u3,rfl,t3⟩,rfl⟩
 obtain⟨ua3,un3,uc3,rfl⟩:=t3.sl
 refine⟨_,rfl,?_⟩
 repeat' first|refine Z1 ?_|refine Z2 ?_|refine Zo ?_|refine J9 ?_|refine Zu ?_
 have oo:([.int .i64 x.kind,.string x.name,.int .i64 x.pos,.slice ua1 un1 uc1,.slice ua2 un2 uc2,.slice ua3 un3 uc3].map ex1).all AV.one=true:=by
  simp only[List.map_cons,List.map_nil,List.all_cons,List.all_nil,Bool.and_true,Bool.and_eq_true]
  exact⟨rfl,rfl,rfl,rfl,rfl,rfl⟩
 refine⟨τ3,⟨[.int .i64 x.kind,.string x.name,.int .i64 x.pos,.slice ua1 un1 uc1,.slice ua2 un2 uc2,.slice ua3 un3 uc3],rfl,by simp[agr,eSm],oo,?_⟩,rfl,_,rfl,rfl⟩
 refine t3.perm ?_
 exact List.Perm.append_right L (show List.Perm (α:=Sh×D×Value) [(.im 91 shItms,.im (x.args.map eItms),.slice ua3 un3 uc3),(.im 156 shItm,.im (x.code.map eItm),.slice ua2 un2 uc2),(.im 9 shStr,.im (x.outs.map eStr),.slice ua1 un1 uc1)] [(.im 9 shStr,.im (x.outs.map eStr),.slice ua1 un1 uc1),(.im 156 shItm,.im (x.code.map eItm),.slice ua2 un2 uc2),(.im 91 shItms,.im (x.args.map eItms),.slice ua3 un3 uc3)]from List.reverse_perm (α:=Sh×D×Value) [(.im 9 shStr,.im (x.outs.map eStr),.slice ua1 un1 uc1),(.im 156 shItm,.im (x.code.map eItm),.slice ua2 un2 uc2),(.im 91 shItms,.im (x.args.map eItms),.slice ua3 un3 uc3)])
theorem J7y (l:List (Sm)) (hw:wL (wSm) l≤1048576) {τ:FH} {L:List (Sh×D×Value)} (hT:Tr τ L):
  BFun X 113 [.d (.im (l.map eSm))] τ fun A τ'=>∃u,A=.ret (.d (.s u))∧Tr τ' ((.im 96 shSm,.im (l.map eSm),u)::L):=by
 simp only[wL]at hw
 refine BFun.row rfl ?_
 refine Jx Tryz.func113 rfl (by decide) Tryz.ntmps113 Tryz.results113 (by simp) ?_
 repeat' first|refine Z1 ?_|refine Z2 ?_|refine Z5 ?_|refine J0f (k:=l.length) rfl rfl (by omega) rfl rfl rfl rfl rfl rfl ?_|refine Zd ?_|refine Zo ?_|refine J5 ?_|refine J4 ?_
 refine Jo (ι:=Nat×List (List Value)×FH) (fun x_=>envL [(0,.d (.im (l.map eSm))),(3,.sl 1 1 0 l.length),(4,vi x_.1)]) (fun x_=>stL [some (.box x_.2.2),some (.row 1 96 6 (trv x_.2.1 (l.length-x_.1) [.d (.s (.int .i64 0)),.d (.s (.string .empty)),.d (.s (.int .i64 0)),.d (.s (.slice none 0 0)),.d (.s (.slice none 0 0)),.d (.s (.slice none 0 0))]))]) (fun x_=>x_.1≤l.length∧x_.2.1.length=x_.1∧agrs shSm ((l.take x_.1).map eSm) x_.2.1∧Tr x_.2.2 (subss shSm ((l.take x_.1).map eSm) x_.2.1++L)) (fun x_=>l.length-x_.1) (0,[],τ) (⟨Nat.zero_le _,rfl,trivial,hT⟩) (Jg rfl ⟨.refl _,.refl _,.refl _,trivial⟩ ⟨⟨rfl,_,rfl,rfl⟩,⟨rfl,_,rfl,rfl,rfl,rfl,rfl⟩,trivial⟩) (fun _=>Nat.le_refl 2) ?_
 rintro⟨k,V,τ1⟩ ⟨i1,i2,i3,i4⟩
 simp only at i1 i2 i3 i4
 rcases hx:l[k]? with _|x
 ·have hle:=Jk hx
  have ek:decide ((k:Int)<(l.length:Int))=false:=J1 (by omega)
  repeat' first|refine Z1 ?_|refine Z2 ?_|refine Z5 ?_|refine Zd ?_|refine Zo ?_|refine J5 ?_|refine Zq ?_|refine Jf ?_|refine J9 ?_|refine J3 ?_|refine Jb ?_|refine Zv ?_|refine Zt ?_
  have e1:l.take k=l:=List.take_of_length_le hle
  rw[e1]at i3 i4
  refine⟨τ1,1,1,V,by simp,rfl,?_,i3,i4⟩
  show some (AO.row 1 _ _ (trv _ _ _))=_
  rw[show l.length-k=0 by omega,J42];rfl
 ·obtain⟨hdr,hlt⟩:=Jc hx
  have hwx:=Jz (w:=wSm) (List.mem_of_getElem? hx)
  have ek:decide ((k:Int)<(l.length:Int))=true:=J0 (by omega)
  repeat' first|refine Z1 ?_|refine Z2 ?_|refine Z5 ?_|refine Yxx ((J8f x (by omega) i4).at (i:=0) rfl) ?_|refine Zd ?_|refine Ze ?_|refine Zo ?_|refine J5 ?_|refine Jd ?_|refine Zp ?_|refine J4 ?_|refine J7 ?_|refine J3 ?_
  rintro A σ2 ⟨τ2,⟨v,rfl,a2,o2,t2⟩,rfl⟩
  refine⟨_,rfl,?_⟩
  have n3:agrs shSm ((l.take (k+1)).map eSm) (V++[v]):=by rw[J03 hx,List.map_append];exact J07 i3 ⟨a2,trivial⟩
  have n4:Tr τ2 (subss shSm ((l.take (k+1)).map eSm) (V++[v])++L):=by
   rw[J03 hx,List.map_append,JY (by simp;omega)]
   refine t2.perm ?_
   show List.Perm _ ((_++(subs shSm (eSm x) v++[]))++L)
   rw[List.append_nil,←List.append_assoc]
   exact List.Perm.append_right _ List.perm_append_comm
  repeat' first|refine Z1 ?_|refine Z2 ?_|refine Z3 ?_|refine Z5 ?_|refine Jv rfl rfl hlt rfl rfl rfl rfl ?_|refine J66 (v:=v) i2 hlt rfl rfl rfl (J0k a2).2 o2 rfl rfl ?_|refine Zf ?_|refine Jd ?_|refine J3 ?_|refine J6 ?_
  exact⟨(k+1,V++[v],τ2),⟨hlt,by simp[i2],n3,n4⟩,by(try simp only);omega,Jh (Nat.le_of_ble_eq_true rfl) ⟨⟨rfl,rfl⟩,⟨rfl,rfl⟩,⟨rfl,rfl⟩,trivial⟩ ⟨⟨rfl,trivial⟩,⟨rfl,Je rfl,J5U _ _ _ rfl⟩,trivial⟩⟩
theorem J6C (x:Cls) (hw:wCls x≤1048576) {τ:FH} {L:List (Sh×D×Value)} (hT:Tr τ L):
  BFun X 69 [.agg ((eCls x).map .d)] τ fun A τ'=>∃v,A=.ret (.agg (v.map ex1))∧agr shCls (eCls x) v∧(v.map ex1).all AV.one=true∧Tr τ' (subs shCls (eCls x) v++L):=by
 simp only[wCls,wL]at hw
 refine BFun.words rfl ?_
 refine Jx Tryz.func69 rfl (by decide) Tryz.ntmps69 Tryz.results69 (by simp) ?_
 repeat' first|refine Z1 ?_|refine Z2 ?_|refine Z5 ?_|refine Yxx ((J3y x.ins (by simp only[wL];omega) hT).at (i:=0) rfl) ?_|refine Zo ?_
 rintro A σ2 ⟨τ1,⟨u1,rfl,t1⟩,rfl⟩
 obtain⟨ua1,un1,uc1,rfl⟩:=t1.sl
 refine⟨_,rfl,?_⟩
 repeat' first|refine Z1 ?_|refine Z2 ?_|refine Z5 ?_|refine Yxx ((J3y x.outs (by simp only[wL];omega) t1).at (i:=0) rfl) ?_|refine Zo ?_
 rintro A σ2 ⟨τ2,⟨u2,rfl,t2⟩,rfl⟩
 obtain⟨ua2,un2,uc2,rfl⟩:=t2.sl
 refine⟨_,rfl,?_⟩
 repeat' first|refine Z1 ?_|refine Z2 ?_|refine Z5 ?_|refine Yxx ((J2f x.locs (by simp only[wL];omega) t2).at (i:=0) rfl) ?_|refine Zo ?_
 rintro A σ2 ⟨τ3,⟨u3,rfl,t3⟩,rfl⟩
 obtain⟨ua3,un3,uc3,rfl⟩:=t3.sl
 refine⟨_,rfl,?_⟩
 repeat' first|refine Z1 ?_|refine Z2 ?_|refine Z5 ?_|refine Yxx ((J49 x.mems (by simp only[wL];omega) t3).at (i:=0) rfl) ?_|refine Zo ?_
 rintro A σ2 ⟨τ4,⟨u4,rfl,t4⟩,rfl⟩
 obtain⟨ua4,un4,uc4,rfl⟩:=t4.sl
 refine⟨_,rfl,?_⟩
 repeat' first|refine Z1 ?_|refine Z2 ?_|refine Z5 ?_|refine Yxx ((J49 x.insts (by simp only[wL];omega) t4).at (i:=0) rfl) ?_|refine Zo ?_
 rintro A σ2 ⟨τ5,⟨u5,rfl,t5⟩,rfl⟩
 obtain⟨ua5,un5,uc5,rfl⟩:=t5.sl
 refine⟨_,rfl,?_⟩
 repeat' first|refine Z1 ?_|refine Z2 ?_|refine Z5 ?_|refine Yxx ((J7y x.body (by simp only[wL];omega) t5).at (i:=0) rfl) ?_|refine Zo ?_
 rintro A σ2 ⟨τ6,⟨u6,rfl,t6⟩,rfl⟩
 obtain⟨ua6,un6,uc6,rfl⟩:=t6.sl
 refine⟨_,rfl,?_⟩
 repeat' first|refine Z1 ?_|refine Z2 ?_|refine Zo ?_|refine J9 ?_|refine Zu ?_
 have oo:([.string x.name,.slice ua1 un1 uc1,.slice ua2 un2 uc2,.slice ua3 un3 uc3,.slice ua4 un4 uc4,.slice ua5 un5 uc5,.slice ua6 un6 uc6].map ex1).all AV.one=true:=by
  simp only[List.map_cons,List.map_nil,List.all_cons,List.all_nil,Bool.and_true,Bool.and_eq_true]
  exact⟨rfl,rfl,rfl,rfl,rfl,rfl,rfl⟩
 refine⟨τ6,⟨[.string x.name,.slice ua1 un1 uc1,.slice ua2 un2 uc2,.slice ua3 un3 uc3,.slice ua4 un4 uc4,.slice ua5 un5 uc5,.slice ua6 un6 uc6],rfl,by simp[agr,eCls],oo,?_⟩,rfl,_,rfl,rfl⟩
 refine t6.perm ?_
 exact List.Perm.append_right L (show List.Perm (α:=Sh×D×Value) [(.im 96 shSm,.im (x.body.map eSm),.slice ua6 un6 uc6),(.im 3 shNum,.im (x.insts.map eNum),.slice ua5 un5 uc5),(.im 3 shNum,.im (x.mems.map eNum),.slice ua4 un4 uc4),(.im 9 shStr,.im (x.locs.map eStr),.slice ua3 un3 uc3),(.im 88 shSlt,.im (x.outs.map eSlt),.slice ua2 un2 uc2),(.im 88 shSlt,.im (x.ins.map eSlt),.slice ua1 un1 uc1)] [(.im 88 shSlt,.im (x.ins.map eSlt),.slice ua1 un1 uc1),(.im 88 shSlt,.im (x.outs.map eSlt),.slice ua2 un2 uc2),(.im 9 shStr,.im (x.locs.map eStr),.slice ua3 un3 uc3),(.im 3 shNum,.im (x.mems.map eNum),.slice ua4 un4 uc4),(.im 3 shNum,.im (x.insts.map eNum),.slice ua5 un5 uc5),(.im 96 shSm,.im (x.body.map eSm),.slice ua6 un6 uc6)]from List.reverse_perm (α:=Sh×D×Value) [(.im 88 shSlt,.im (x.ins.map eSlt),.slice ua1 un1 uc1),(.im 88 shSlt,.im (x.outs.map eSlt),.slice ua2 un2 uc2),(.im 9 shStr,.im (x.locs.map eStr),.slice ua3 un3 uc3),(.im 3 shNum,.im (x.mems.map eNum),.slice ua4 un4 uc4),(.im 3 shNum,.im (x.insts.map eNum),.slice ua5 un5 uc5),(.im 96 shSm,.im (x.body.map eSm),.slice ua6 un6 uc6)])
theorem J6e (l:List (Cls)) (hw:wL (wCls) l≤1048576) {τ:FH} {L:List (Sh×D×Value)} (hT:Tr τ L):
  BFun X 29 [.d (.im (l.map eCls))] τ fun A τ'=>∃u,A=.ret (.d (.s u))∧Tr τ' ((.im 53 shCls,.im (l.map eCls),u)::L):=by
 simp only[wL]at hw
 refine BFun.row rfl ?_
 refine Jx Tryz.func29 rfl (by decide) Tryz.ntmps29 Tryz.results29 (by simp) ?_
 repeat' first|refine Z1 ?_|refine Z2 ?_|refine Z5 ?_|refine J0f (k:=l.length) rfl rfl (by omega) rfl rfl rfl rfl rfl rfl ?_|refine Zd ?_|refine Zo ?_|refine J5 ?_|refine J4 ?_
 refine Jo (ι:=Nat×List (List Value)×FH) (fun x_=>envL [(0,.d (.im (l.map eCls))),(3,.sl 1 1 0 l.length),(4,vi x_.1)]) (fun x_=>stL [some (.box x_.2.2),some (.row 1 53 7 (trv x_.2.1 (l.length-x_.1) [.d (.s (.string .empty)),.d (.s (.slice none 0 0)),.d (.s (.slice none 0 0)),.d (.s (.slice none 0 0)),.d (.s (.slice none 0 0)),.d (.s (.slice none 0 0)),.d (.s (.slice none 0 0))]))]) (fun x_=>x_.1≤l.length∧x_.2.1.length=x_.1∧agrs shCls ((l.take x_.1).map eCls) x_.2.1∧Tr x_.2.2 (subss shCls ((l.take x_.1).map eCls) x_.2.1++L)) (fun x_=>l.length-x_.1) (0,[],τ) (⟨Nat.zero_le _,rfl,trivial,hT⟩) (Jg rfl ⟨.refl _,.refl _,.refl _,trivial⟩ ⟨⟨rfl,_,rfl,rfl⟩,⟨rfl,_,rfl,rfl,rfl,rfl,rfl⟩,trivial⟩) (fun _=>Nat.le_refl 2) ?_
 rintro⟨k,V,τ1⟩ ⟨i1,i2,i3,i4⟩
 simp only at i1 i2 i3 i4
 rcases hx:l[k]? with _|x
 ·have hle:=Jk hx
  have ek:decide ((k:Int)<(l.length:Int))=false:=J1 (by omega)
  repeat' first|refine Z1 ?_|refine Z2 ?_|refine Z5 ?_|refine Zd ?_|refine Zo ?_|refine J5 ?_|refine Zq ?_|refine Jf ?_|refine J9 ?_|refine J3 ?_|refine Jb ?_|refine Zv ?_|refine Zt ?_
  have e1:l.take k=l:=List.take_of_length_le hle
  rw[e1]at i3 i4
  refine⟨τ1,1,1,V,by simp,rfl,?_,i3,i4⟩
  show some (AO.row 1 _ _ (trv _ _ _))=_
  rw[show l.length-k=0 by omega,J42];rfl
 ·obtain⟨hdr,hlt⟩:=Jc hx
  have hwx:=Jz (w:=wCls) (List.mem_of_getElem? hx)
  have ek:decide ((k:Int)<(l.length:Int))=true:=J0 (by omega)
  repeat' first|refine Z1 ?_|refine Z2 ?_|refine Z5 ?_|refine Yxx ((J6C x (by omega) i4).at (i:=0) rfl) ?_|refine Zd ?_|refine Ze ?_|refine Zo ?_|refine J5 ?_|refine Jd ?_|refine Zp ?_|refine J4 ?_|refine J7 ?_|refine J3 ?_
  rintro A σ2 ⟨τ2,⟨v,rfl,a2,o2,t2⟩,rfl⟩
  refine⟨_,rfl,?_⟩
  have n3:agrs shCls ((l.take (k+1)).map eCls) (V++[v]):=by rw[J03 hx,List.map_append];exact J07 i3 ⟨a2,trivial⟩
  have n4:Tr τ2 (subss shCls ((l.take (k+1)).map eCls) (V++[v])++L):=by
   rw[J03 hx,List.map_append,JY (by simp;omega)]
   refine t2.perm ?_
   show List.Perm _ ((_++(subs shCls (eCls x) v++[]))++L)
   rw[List.append_nil,←List.append_assoc]
   exact List.Perm.append_right _ List.perm_append_comm
  repeat' first|refine Z1 ?_|refine Z2 ?_|refine Z3 ?_|refine Z5 ?_|refine Jv rfl rfl hlt rfl rfl rfl rfl ?_|refine J66 (v:=v) i2 hlt rfl rfl rfl (J0k a2).2 o2 rfl rfl ?_|refine Zf ?_|refine Jd ?_|refine J3 ?_|refine J6 ?_
  exact⟨(k+1,V++[v],τ2),⟨hlt,by simp[i2],n3,n4⟩,by(try simp only);omega,Jh (Nat.le_of_ble_eq_true rfl) ⟨⟨rfl,rfl⟩,⟨rfl,rfl⟩,⟨rfl,rfl⟩,trivial⟩ ⟨⟨rfl,trivial⟩,⟨rfl,Je rfl,J5U _ _ _ rfl⟩,trivial⟩⟩
theorem J4T (l:List Cls) (hw:wL wCls l≤1048576) {τ:FH} {L:List (Sh×D×Value)} (hT:Tr τ L):
  BFun X 9 [.agg [.d (.im (l.map eCls))]] τ fun A τ'=>∃u,A=.ret (.agg [.d (.s u)])∧Tr τ' ((.im 53 shCls,.im (l.map eCls),u)::L):=by
 refine BFun.words rfl ?_
 refine Jx Tryz.func9 rfl (by decide) Tryz.ntmps9 Tryz.results9 (by simp) ?_
 repeat' first|refine Z1 ?_|refine Z2 ?_|refine Z5 ?_|refine Yxx ((J6e l hw hT).at (i:=0) rfl) ?_|refine Zo ?_
 rintro A σ2 ⟨τ1,⟨u,rfl,t1⟩,rfl⟩
 obtain⟨ua,un,uc,rfl⟩:=t1.sl
 refine⟨_,rfl,?_⟩
 repeat' first|refine Z1 ?_|refine Z2 ?_|refine Zo ?_|refine J9 ?_|refine Zu ?_
 exact⟨τ1,⟨_,rfl,t1⟩,rfl,_,rfl,rfl⟩
end Go.Pm
/- Part of the proof: Fu4. -/
namespace Go.Pm
attribute [local irreducible] AR Ok inBlock andThen endQ aoper
set_option maxHeartbeats 2000000
open Go.Proofs
theorem J5P (l:List Itm) (hl:l.length≤1048576):RFun X 133 [.d (.im (l.map eItm))] 156 3 (l.map vItm):=by
 refine⟨rfl,by decide,?_⟩
 refine Jx Tryz.func133 rfl (by decide) Tryz.ntmps133 Tryz.results133 (by simp) ?_
 repeat' first|refine Z1 ?_|refine Z2 ?_|refine Z5 ?_|refine Yw (sz:=3) (rows:=[]) ?_|refine Yl (e:=eItm) (l:=[]) l ?_|refine Zo ?_|refine J9 ?_|refine Zt ?_
 refine .inl ⟨_,_,by rw[List.length_map];rfl,?_⟩
 show some (AO.row _ _ 3 (im2 eItm l))=_
 rw[J0m (v:=vItm) (fun _=>rfl)]
theorem J4b (V:List (List Value)) (v:List Value):exR V++[v.map ex1]=exR (V++[v]):=by simp[exR]
def vSm (x:Sm) (a b c:Value):List Value:=[.int .i64 x.kind,.string x.name,.int .i64 x.pos,a,b,c]
theorem J7T (x:Sm) (a b c:Value):agr shSm (eSm x) (vSm x a b c):=by simp[agr,eSm,vSm]
theorem J5f (x:Sm) (hw:wSm x≤1048576) {τ:FH} {L:List (Sh×D×Value)} (hT:Tr τ L):
  BFun X 83 [.agg ((eSm x).map .d)] τ fun A τ'=>∃a1 n1 c1 a2 n2 c2 a3 n3 c3,A=.ret (.agg ((vSm x (.slice a1 n1 c1) (.slice a2 n2 c2) (.slice a3 n3 c3)).map ex1))∧Tr τ' (subs shSm (eSm x) (vSm x (.slice a1 n1 c1) (.slice a2 n2 c2) (.slice a3 n3 c3))++L):=by
 simp only[wSm,wL]at hw
 refine BFun.words rfl ?_
 refine Jx Tryz.func83 rfl (by decide) Tryz.ntmps83 Tryz.results83 (by simp) ?_
 repeat' first|refine Z1 ?_|refine Z2 ?_|refine Z5 ?_|refine Yln (e:=eStr) (n:=4) x.outs (fun _=>rfl) ?_|refine Yln (e:=eItm) (n:=5) x.code (fun _=>rfl) ?_|refine Zd ?_|refine Zo ?_|refine J5 ?_|refine J4 ?_
 refine J0a (J1q 3 91 1 rfl (cs':=[.d (.s (.int .i64 x.kind)),.d (.s (.string x.name)),.d (.s (.int .i64 x.pos)),.sl 4 4 0 x.outs.length,.sl 5 5 0 x.code.length,.sl 6 6 0 0]) rfl rfl ⟨.refl _,.refl _,.refl _,.refl _,.refl _,.nil,trivial⟩) ?_
 refine J0w (ι:=Nat×List (List Value)×FH) (fun x_=>envL [(2,.ref 2 0),(3,.ref 3 0),(26,.d (.im (x.args.map eItms))),(27,vi x.args.length),(28,vi x_.1)]) (fun x_=>stL [some (.box x_.2.2),none,some (.var [.d (.s (.int .i64 0)),.d (.s (.string .empty)),.d (.s (.int .i64 0)),.d (.s (.slice none 0 0)),.d (.s (.slice none 0 0)),.d (.s (.slice none 0 0))]),some (.var [.d (.s (.int .i64 x.kind)),.d (.s (.string x.name)),.d (.s (.int .i64 x.pos)),.sl 4 4 0 x.outs.length,.sl 5 5 0 x.code.length,.sl 6 7 0 x_.1]),some (.row 4 9 1 (im2 eStr x.outs)),some (.row 5 156 3 (im2 eItm x.code)),some (.row 7 91 1 (exR x_.2.1)),none]) (fun x_=>x_.1≤x.args.length∧x_.2.1.length=x_.1∧agrs shItms ((x.args.take x_.1).map eItms) x_.2.1∧Tr x_.2.2 (subss shItms ((x.args.take x_.1).map eItms) x_.2.1++L)) (fun x_=>x.args.length-x_.1) (0,[],τ) (⟨Nat.zero_le _,rfl,trivial,hT⟩) Turn.refl (JC [(7,6)] rfl rfl rfl ⟨⟨rfl,rfl⟩,⟨rfl,rfl⟩,⟨rfl,rfl⟩,⟨rfl,rfl⟩,⟨rfl,rfl⟩,trivial⟩ ⟨⟨rfl,trivial⟩,⟨rfl,rfl⟩,⟨rfl,rfl⟩,⟨Jn rfl (by first|exact Jq _ _ _|rfl),Je rfl,Jl _ _ _⟩,⟨Jn rfl (by first|exact Jq _ _ _|rfl),Je rfl,Jl _ _ _⟩,⟨Jn rfl (by first|exact J3M _ _|rfl),Je rfl,J0l _ _⟩,trivial⟩) ?_
 rintro⟨k,V,τ1⟩ ⟨i1,i2,i3,i4⟩
 simp only at i1 i2 i3 i4
 show Ok _ _ _ _ (envL [(2,.ref 2 0),(3,.ref 3 0),(26,.d (.im (x.args.map eItms))),(27,vi x.args.length),(28,vi k)]) (stL [some (.box τ1),none,some (.var [.d (.s (.int .i64 0)),.d (.s (.string .empty)),.d (.s (.int .i64 0)),.d (.s (.slice none 0 0)),.d (.s (.slice none 0 0)),.d (.s (.slice none 0 0))]),some (.var [.d (.s (.int .i64 x.kind)),.d (.s (.string x.name)),.d (.s (.int .i64 x.pos)),.sl 4 4 0 x.outs.length,.sl 5 5 0 x.code.length,.sl 6 7 0 k]),some (.row 4 9 1 (im2 eStr x.outs)),some (.row 5 156 3 (im2 eItm x.code)),some (.row 7 91 1 (exR V)),none])
 rcases hx:x.args[k]? with _|a
 ·have hle:=Jk hx
  have ek:decide ((k:Int)<(x.args.length:Int))=false:=J1 (by omega)
  rw[List.take_of_length_le hle]at i3 i4
  obtain rfl:k=(x.args.map eItms).length:=by rw[List.length_map];omega
  refine J0g 0 3 4 (v:=4) (E:=9) (ss:=shStr) (rows:=x.outs.map eStr) (vs:=x.outs.map vStr) (l:=subss shItms (x.args.map eItms) V++L) (τ:=τ1) (C:=fun y=>.var ([.d (.s (.int .i64 x.kind)),.d (.s (.string x.name)),.d (.s (.int .i64 x.pos))]++y::[.sl 5 5 0 x.code.length,.sl 6 7 0 (x.args.map eItms).length])) (J0i _ _) rfl rfl (by simp) (by decide) (by rw[←J0m (e:=eStr) (v:=vStr) (fun _=>rfl)];rfl) (JM J48 _) (by rw[JH J1f];exact i4) (by decide) ?_
  intro a1 n1 c1 τa ta
  refine J0g 0 3 5 (v:=5) (E:=156) (ss:=shItm) (rows:=x.code.map eItm) (vs:=x.code.map vItm) (l:=(.im 9 shStr,.im (x.outs.map eStr),.slice a1 n1 c1)::(subss shItms (x.args.map eItms) V++L)) (τ:=τa) (C:=fun y=>.var ([.d (.s (.int .i64 x.kind)),.d (.s (.string x.name)),.d (.s (.int .i64 x.pos)),.d (.s (.slice a1 n1 c1))]++y::[.sl 6 7 0 (x.args.map eItms).length])) (J0i _ _) rfl rfl (by simp) (by decide) (by rw[←J0m (e:=eItm) (v:=vItm) (fun _=>rfl)];rfl) (JM J4y _) (by rw[JH J1i];exact ta) (by decide) ?_
  intro a2 n2 c2 τb tb
  refine J0g 0 3 6 (v:=7) (E:=91) (ss:=shItms) (rows:=x.args.map eItms) (vs:=V) (l:=(.im 156 shItm,.im (x.code.map eItm),.slice a2 n2 c2)::(.im 9 shStr,.im (x.outs.map eStr),.slice a1 n1 c1)::L) (τ:=τb) (C:=fun y=>.var ([.d (.s (.int .i64 x.kind)),.d (.s (.string x.name)),.d (.s (.int .i64 x.pos)),.d (.s (.slice a1 n1 c1)),.d (.s (.slice a2 n2 c2))]++y::[])) (J0i _ _) rfl rfl rfl (by decide) rfl i3 (tb.perm (List.perm_append_comm_assoc [_,_] _ _)) (by decide) ?_
  intro a3 n3 c3 τc tc
  repeat' first|refine Z1 ?_|refine Z2 ?_|refine Zo ?_|refine J5 ?_|refine Zq ?_|refine Jf ?_|refine J9 ?_|refine J3 ?_|refine Jb ?_|refine Zv ?_|refine Zu ?_
  refine⟨τc,⟨a1,n1,c1,a2,n2,c2,a3,n3,c3,rfl,?_⟩,rfl,_,rfl,rfl⟩
  refine tc.perm ?_
  exact List.Perm.append_right L (show List.Perm (α:=Sh×D×Value) [(.im 91 shItms,.im (x.args.map eItms),.slice a3 n3 c3),(.im 156 shItm,.im (x.code.map eItm),.slice a2 n2 c2),(.im 9 shStr,.im (x.outs.map eStr),.slice a1 n1 c1)] [(.im 9 shStr,.im (x.outs.map eStr),.slice a1 n1 c1),(.im 156 shItm,.im (x.code.map eItm),.slice a2 n2 c2),(.im 91 shItms,.im (x.args.map eItms),.slice a3 n3 c3)]from List.reverse_perm (α:=Sh×D×Value) [(.im 9 shStr,.im (x.outs.map eStr),.slice a1 n1 c1),(.im 156 shItm,.im (x.code.map eItm),.slice a2 n2 c2),(.im 91 shItms,.im (x.args.map eItms),.slice a3 n3 c3)])
 ·obtain⟨hdr,hlt⟩:=Jc hx
  have hwx:=Jz (w:=wL wItm) (List.mem_of_getElem? hx)
  simp only[wL]at hwx
  have ek:decide ((k:Int)<(x.args.length:Int))=true:=J0 (by omega)
  repeat' first|refine Z1 ?_|refine Z2 ?_|refine Z5 ?_|refine Ze ?_|refine Zo ?_|refine J5 ?_|refine Zp ?_|refine J4 ?_|refine J7 ?_|refine J3 ?_
  refine J09 (fun j=>j=3) [3,4,5,7] Jr (by decide +kernel) ?_
  refine Wa ?_
  refine Wr rfl rfl ?_
  refine Wa ?_
  refine We (Ym ((J5P a (by omega)).lendB (args:=[.d (.im (a.map eItm))]) ⟨Jba _ _,trivial⟩) ⟨rfl,rfl⟩) (.inr fun j hj=>by subst hj;rfl) ?_
  refine We (Yw (sz:=1) (rows:=[[.sl 8 8 0 (a.map vItm).length]]) ⟨rfl,rfl⟩) (.inr fun j hj=>by subst hj;rfl) ?_
  refine We (Yap (O:=some (6,7)) (rows:=exR V) (rows2:=[[.sl 8 8 0 (a.map vItm).length]]) (m:=k+1) rfl rfl (fun r hr=>by simp only[List.mem_singleton]at hr;subst hr;rfl) (by simp[exR,i2]) (by omega) ⟨rfl,rfl⟩ (hn:=by simp[exR,i2])) (.inr fun j hj=>by subst hj;rfl) ?_
  refine Wa ?_
  refine We (Yt (cells:=[.d (.s (.int .i64 x.kind)),.d (.s (.string x.name)),.d (.s (.int .i64 x.pos)),.sl 4 4 0 x.outs.length,.sl 5 5 0 x.code.length,.sl 6 7 0 k]) (m:=[.d (.s (.int .i64 x.kind)),.d (.s (.string x.name)),.d (.s (.int .i64 x.pos)),.sl 4 4 0 x.outs.length,.sl 5 5 0 x.code.length,.sl 6 10 0 (k+1)]) rfl ⟨rfl,rfl⟩) (.inl rfl) ?_
  refine Wy ?_
  refine J6 ?_
  refine J3 ?_
  refine J0g 0 6 8 (v:=8) (E:=156) (ss:=shItm) (rows:=a.map eItm) (vs:=a.map vItm) (l:=subss shItms ((x.args.take k).map eItms) V++L) (τ:=τ1) (C:=fun y=>.row 10 91 1 (exR V++([]++y::[])::[])) (J98 _ _ _ _ _ _ _) rfl rfl (by simp) (by decide) rfl (JM J4y a) (by rw[JH J1i];exact i4) (by decide) ?_
  intro ua un uc τ2 t2
  have n3:agrs shItms ((x.args.take (k+1)).map eItms) (V++[[.slice ua un uc]]):=by rw[J03 hx,List.map_append];exact J07 i3 ⟨trivial,trivial⟩
  have n4:Tr τ2 (subss shItms ((x.args.take (k+1)).map eItms) (V++[[.slice ua un uc]])++L):=by
   rw[J03 hx,List.map_append,JY (by simp;omega)]
   refine t2.perm ?_
   show List.Perm _ ((_++[(.im 156 shItm,.im (a.map eItm),.slice ua un uc)])++L)
   rw[List.append_assoc]
   exact(List.perm_middle (l₁:=subss shItms ((x.args.take k).map eItms) V)).symm
  have e9:(AO.row 10 91 1 (exR V++([]++(.d (.s (.slice ua un uc)):AV)::[])::[]))=.row 10 91 1 (exR (V++[[.slice ua un uc]])):=by rw[←J4b];rfl
  rw[e9]
  repeat' first|refine Z1 ?_|refine Z2 ?_|refine Z5 ?_|refine Zf ?_|refine Jd ?_
  exact⟨(k+1,V++[[.slice ua un uc]],τ2),⟨hlt,by simp[i2],n3,n4⟩,by(try simp only);omega,JC [(7,10)] rfl rfl rfl ⟨⟨rfl,rfl⟩,⟨rfl,rfl⟩,⟨rfl,rfl⟩,⟨rfl,rfl⟩,⟨rfl,rfl⟩,trivial⟩ ⟨⟨rfl,trivial⟩,⟨rfl,rfl⟩,⟨rfl,rfl⟩,⟨Jn rfl (Jq _ _ _),Je rfl,Jl _ _ _⟩,⟨Jn rfl (Jq _ _ _),Je rfl,Jl _ _ _⟩,⟨by show some (AO.row 10 91 1 (exR (V++[[.slice ua un uc]])))=some (AO.row 10 91 1 ((exR (V++[[.slice ua un uc]])).map _));rw[J3M],Je rfl,J0l _ _⟩,trivial⟩⟩
end Go.Pm
