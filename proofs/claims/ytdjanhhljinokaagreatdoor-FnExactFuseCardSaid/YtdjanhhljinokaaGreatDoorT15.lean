/- Part of the proof: Tom. -/
import Derived.Test.YtdjanhhljinokaaGreatDoorT14
import Derived.Test.YtdjanhhljinokaaGreatDoorT10
set_option linter.unusedVariables false
set_option linter.unusedSimpArgs false
namespace Go.Pm
attribute [local irreducible] AR Ok inBlock andThen endQ aoper
set_option maxHeartbeats 1000000
open Go.Proofs
theorem Jz {α:Type} {w:α→Nat} {x:α}:∀{l:List α},x∈l→w x≤(l.map w).sum
 |y::l,h=>by
  simp only[List.map_cons,List.sum_cons]
  rcases List.mem_cons.1 h with rfl|h
  ·omega
  ·have:=Jz (w:=w) h;omega
theorem J5J (x:Itm) (hw:wItm x≤1048576):PFun X 215 [.agg ((eItm x).map .d)] (.agg ((eItm x).map .d)):=by
 simp only[wItm]at hw
 refine Jj Tryz.func215 rfl (by decide) Tryz.ntmps215 Tryz.results215 (by simp) rfl rfl ?_
 repeat' first|refine Z1 ?_|refine Z2 ?_|refine Zo ?_|refine J9 ?_|refine Zu ?_
 rfl
theorem J8Q (x:Itm) (hw:wItm x≤1048576):PFun X 216 [.agg ((eItm x).map .d),.agg ((eItm x).map .d)] (vb true):=by
 simp only[wItm]at hw
 have ht:(!true)=false:=rfl
 have e0:decide (x.op≠x.op)=false:=J1 (fun h=>h rfl)
 have e1:decide (x.val≠x.val)=false:=J1 (fun h=>h rfl)
 have e2:decide (x.name≠x.name)=false:=J1 (fun h=>h rfl)
 refine Jj Tryz.func216 rfl (by decide) Tryz.ntmps216 Tryz.results216 (by simp) rfl rfl ?_
 repeat' first|refine Z1 ?_|refine Z2 ?_|refine Zo ?_|refine J5 ?_|refine Zq ?_|refine J7 ?_|refine J9 ?_|refine J3 ?_|refine Zt ?_
 rfl
theorem J4P (l:List (Itm)) (hw:wL (wItm) l≤1048576):PFun X 191 [.d (.im (l.map eItm))] (.d (.im (l.map eItm))):=by
 simp only[wL]at hw
 refine Jj Tryz.func191 rfl (by decide) Tryz.ntmps191 Tryz.results191 (by simp) rfl rfl ?_
 repeat' first|refine Z1 ?_|refine Z2 ?_|refine Z5 ?_|refine J0f (k:=l.length) rfl rfl (by omega) rfl rfl rfl rfl rfl rfl ?_|refine Zd ?_|refine Zo ?_|refine J5 ?_|refine J4 ?_
 refine Jo (ι:=Nat) (fun x=>envL [(0,.d (.im (l.map eItm))),(3,.sl 0 0 0 l.length),(4,vi x)]) (fun x=>stL [some (.row 0 156 3 (trk eItm l x [.d (.s (.int .i64 0)),.d (.s (.int .i64 0)),.d (.s (.string .empty))]))]) (fun x=>x≤l.length) (fun x=>l.length-x) 0 (Nat.zero_le _) (Jg rfl ⟨.refl _,.refl _,.refl _,trivial⟩ ⟨⟨rfl,_,rfl,rfl,rfl,rfl,rfl⟩,trivial⟩) (fun _=>Nat.le_refl 1) ?_
 intro k i1
 rcases hx:l[k]? with _|x
 ·have hle:=Jk hx
  have ek:decide ((k:Int)<(l.length:Int))=false:=J1 (by omega)
  repeat' first|refine Z1 ?_|refine Z2 ?_|refine Z5 ?_|refine Zd ?_|refine J0G (J0x hle) 2 rfl rfl rfl ?_|refine Zo ?_|refine J5 ?_|refine Zq ?_|refine Jf ?_|refine J9 ?_|refine J3 ?_|refine Jb ?_|refine Zv ?_|refine Zt ?_
  rfl
 ·obtain⟨hdr,hlt⟩:=Jc hx
  have hwx:=Jz (w:=wItm) (List.mem_of_getElem? hx)
  have ek:decide ((k:Int)<(l.length:Int))=true:=J0 (by omega)
  repeat' first|refine Z1 ?_|refine Z2 ?_|refine Z3 ?_|refine Z5 ?_|refine Jv rfl rfl hlt rfl rfl rfl rfl ?_|refine J0t hx rfl rfl rfl rfl rfl rfl rfl rfl ?_|refine Zc (J5J x (by omega)) ?_|refine Zd ?_|refine Ze ?_|refine Zf ?_|refine Zo ?_|refine J5 ?_|refine Jd ?_|refine Zp ?_|refine J4 ?_|refine J7 ?_|refine J3 ?_|refine J6 ?_
  exact⟨k+1,hlt,by(try simp only);omega,Jh (Nat.le_of_ble_eq_true rfl) ⟨⟨rfl,rfl⟩,⟨rfl,rfl⟩,⟨rfl,rfl⟩,trivial⟩ ⟨⟨rfl,Je rfl,J0y _ _ _ _ rfl⟩,trivial⟩⟩
theorem J4N (l:List (Itm)) (hw:wL (wItm) l≤1048576):PFun X 193 [.d (.im (l.map eItm)),.d (.im (l.map eItm))] (vb true):=by
 have ht:(!true)=false:=rfl
 simp only[wL]at hw
 have e0:decide ((l.length:Int)≠(l.length:Int))=false:=J1 (fun h=>h rfl)
 refine Jj Tryz.func193 rfl (by decide) Tryz.ntmps193 Tryz.results193 (by simp) rfl rfl ?_
 repeat' first|refine Z1 ?_|refine Z2 ?_|refine Z5 ?_|refine Zd ?_|refine Zo ?_|refine J5 ?_|refine Zq ?_|refine J4 ?_|refine J7 ?_|refine J3 ?_
 refine Jo (ι:=Nat) (fun x=>envL [(0,.d (.im (l.map eItm))),(1,.d (.im (l.map eItm))),(4,vb false),(5,vi x)]) (fun x=>stL []) (fun x=>x≤l.length) (fun x=>l.length-x) 0 (Nat.zero_le _) (Jg rfl ⟨.refl _,.refl _,.refl _,.refl _,trivial⟩ trivial) (fun _=>Nat.le_refl 0) ?_
 intro k i1
 rcases hx:l[k]? with _|x
 ·have hle:=Jk hx
  have ek:decide ((k:Int)<(l.length:Int))=false:=J1 (by omega)
  repeat' first|refine Z1 ?_|refine Z2 ?_|refine Z5 ?_|refine Zd ?_|refine Zo ?_|refine J5 ?_|refine Zq ?_|refine Jf ?_|refine J9 ?_|refine J3 ?_|refine Jb ?_|refine Zv ?_|refine Zt ?_
  rfl
 ·obtain⟨hdr,hlt⟩:=Jc hx
  have hwx:=Jz (w:=wItm) (List.mem_of_getElem? hx)
  have ek:decide ((k:Int)<(l.length:Int))=true:=J0 (by omega)
  repeat' first|refine Z1 ?_|refine Z2 ?_|refine Z5 ?_|refine Zd ?_|refine Zf ?_|refine Zw ?_|refine Zx ?_|refine Zz (Zc (J8Q x (by omega)) ⟨rfl,rfl⟩) ?_|refine Zz (Ze ⟨rfl,rfl⟩) ?_|refine Zo ?_|refine J5 ?_|refine Jd ?_|refine Jy Jr (by decide +kernel) ?_|refine Zp ?_|refine Zq ?_|refine J4 ?_|refine J7 ?_|refine J3 ?_|refine J6 ?_
  exact⟨k+1,hlt,by(try simp only);omega,Jh (Nat.zero_le _) ⟨⟨rfl,rfl⟩,⟨rfl,rfl⟩,⟨rfl,rfl⟩,⟨rfl,rfl⟩,trivial⟩ trivial⟩
theorem J2v (l:List (ByteArray)) (hw:wL (wStr) l≤1048576):PFun X 112 [.d (.im (l.map eStr))] (.d (.im (l.map eStr))):=by
 simp only[wL]at hw
 refine Jj Tryz.func112 rfl (by decide) Tryz.ntmps112 Tryz.results112 (by simp) rfl rfl ?_
 repeat' first|refine Z1 ?_|refine Z2 ?_|refine Z5 ?_|refine J0f (k:=l.length) rfl rfl (by omega) rfl rfl rfl rfl rfl rfl ?_|refine Zd ?_|refine Zo ?_|refine J5 ?_|refine J4 ?_
 refine Jo (ι:=Nat) (fun x=>envL [(0,.d (.im (l.map eStr))),(3,.sl 0 0 0 l.length),(4,vi x)]) (fun x=>stL [some (.row 0 9 1 (trk eStr l x [.d (.s (.string .empty))]))]) (fun x=>x≤l.length) (fun x=>l.length-x) 0 (Nat.zero_le _) (Jg rfl ⟨.refl _,.refl _,.refl _,trivial⟩ ⟨⟨rfl,_,rfl,rfl,rfl,rfl,rfl⟩,trivial⟩) (fun _=>Nat.le_refl 1) ?_
 intro k i1
 rcases hx:l[k]? with _|x
 ·have hle:=Jk hx
  have ek:decide ((k:Int)<(l.length:Int))=false:=J1 (by omega)
  repeat' first|refine Z1 ?_|refine Z2 ?_|refine Z5 ?_|refine Zd ?_|refine J0G (J0x hle) 2 rfl rfl rfl ?_|refine Zo ?_|refine J5 ?_|refine Zq ?_|refine Jf ?_|refine J9 ?_|refine J3 ?_|refine Jb ?_|refine Zv ?_|refine Zt ?_
  rfl
 ·obtain⟨hdr,hlt⟩:=Jc hx
  have hwx:=Jz (w:=wStr) (List.mem_of_getElem? hx)
  have ek:decide ((k:Int)<(l.length:Int))=true:=J0 (by omega)
  repeat' first|refine Z1 ?_|refine Z2 ?_|refine Z3 ?_|refine Z5 ?_|refine Jv rfl rfl hlt rfl rfl rfl rfl ?_|refine J0t hx rfl rfl rfl rfl rfl rfl rfl rfl ?_|refine Zd ?_|refine Ze ?_|refine Zf ?_|refine Zo ?_|refine J5 ?_|refine Jd ?_|refine Zp ?_|refine J4 ?_|refine J7 ?_|refine J3 ?_|refine J6 ?_
  exact⟨k+1,hlt,by(try simp only);omega,Jh (Nat.le_of_ble_eq_true rfl) ⟨⟨rfl,rfl⟩,⟨rfl,rfl⟩,⟨rfl,rfl⟩,trivial⟩ ⟨⟨rfl,Je rfl,J0y _ _ _ _ rfl⟩,trivial⟩⟩
theorem J33 (l:List (ByteArray)) (hw:wL (wStr) l≤1048576):PFun X 124 [.d (.im (l.map eStr)),.d (.im (l.map eStr))] (vb true):=by
 have ht:(!true)=false:=rfl
 simp only[wL]at hw
 have e0:decide ((l.length:Int)≠(l.length:Int))=false:=J1 (fun h=>h rfl)
 refine Jj Tryz.func124 rfl (by decide) Tryz.ntmps124 Tryz.results124 (by simp) rfl rfl ?_
 repeat' first|refine Z1 ?_|refine Z2 ?_|refine Z5 ?_|refine Zd ?_|refine Zo ?_|refine J5 ?_|refine Zq ?_|refine J4 ?_|refine J7 ?_|refine J3 ?_
 refine Jo (ι:=Nat) (fun x=>envL [(0,.d (.im (l.map eStr))),(1,.d (.im (l.map eStr))),(4,vb false),(5,vi x)]) (fun x=>stL []) (fun x=>x≤l.length) (fun x=>l.length-x) 0 (Nat.zero_le _) (Jg rfl ⟨.refl _,.refl _,.refl _,.refl _,trivial⟩ trivial) (fun _=>Nat.le_refl 0) ?_
 intro k i1
 rcases hx:l[k]? with _|x
 ·have hle:=Jk hx
  have ek:decide ((k:Int)<(l.length:Int))=false:=J1 (by omega)
  repeat' first|refine Z1 ?_|refine Z2 ?_|refine Z5 ?_|refine Zd ?_|refine Zo ?_|refine J5 ?_|refine Zq ?_|refine Jf ?_|refine J9 ?_|refine J3 ?_|refine Jb ?_|refine Zv ?_|refine Zt ?_
  rfl
 ·obtain⟨hdr,hlt⟩:=Jc hx
  have hwx:=Jz (w:=wStr) (List.mem_of_getElem? hx)
  have ek:decide ((k:Int)<(l.length:Int))=true:=J0 (by omega)
  have ee:decide (x≠x)=false:=J1 (fun h=>h rfl)
  repeat' first|refine Z1 ?_|refine Z2 ?_|refine Z5 ?_|refine Zd ?_|refine Zf ?_|refine Zw ?_|refine Zx ?_|refine Zz (Ze ⟨rfl,rfl⟩) ?_|refine Zo ?_|refine J5 ?_|refine Jd ?_|refine Jy Jr (by decide +kernel) ?_|refine Zp ?_|refine Zq ?_|refine J4 ?_|refine J7 ?_|refine J3 ?_|refine J6 ?_
  exact⟨k+1,hlt,by(try simp only);omega,Jh (Nat.zero_le _) ⟨⟨rfl,rfl⟩,⟨rfl,rfl⟩,⟨rfl,rfl⟩,⟨rfl,rfl⟩,trivial⟩ trivial⟩
theorem J5C (l:List (Int)) (hw:wL (wNum0) l≤1048576):PFun X 10 [.d (.im (l.map eNum))] (.d (.im (l.map eNum))):=by
 simp only[wL]at hw
 refine Jj Tryz.func10 rfl (by decide) Tryz.ntmps10 Tryz.results10 (by simp) rfl rfl ?_
 repeat' first|refine Z1 ?_|refine Z2 ?_|refine Z5 ?_|refine J0f (k:=l.length) rfl rfl (by omega) rfl rfl rfl rfl rfl rfl ?_|refine Zd ?_|refine Zo ?_|refine J5 ?_|refine J4 ?_
 refine Jo (ι:=Nat) (fun x=>envL [(0,.d (.im (l.map eNum))),(3,.sl 0 0 0 l.length),(4,vi x)]) (fun x=>stL [some (.row 0 3 1 (trk eNum l x [.d (.s (.int .i64 0))]))]) (fun x=>x≤l.length) (fun x=>l.length-x) 0 (Nat.zero_le _) (Jg rfl ⟨.refl _,.refl _,.refl _,trivial⟩ ⟨⟨rfl,_,rfl,rfl,rfl,rfl,rfl⟩,trivial⟩) (fun _=>Nat.le_refl 1) ?_
 intro k i1
 rcases hx:l[k]? with _|x
 ·have hle:=Jk hx
  have ek:decide ((k:Int)<(l.length:Int))=false:=J1 (by omega)
  repeat' first|refine Z1 ?_|refine Z2 ?_|refine Z5 ?_|refine Zd ?_|refine J0G (J0x hle) 2 rfl rfl rfl ?_|refine Zo ?_|refine J5 ?_|refine Zq ?_|refine Jf ?_|refine J9 ?_|refine J3 ?_|refine Jb ?_|refine Zv ?_|refine Zt ?_
  rfl
 ·obtain⟨hdr,hlt⟩:=Jc hx
  have hwx:=Jz (w:=wNum0) (List.mem_of_getElem? hx)
  have ek:decide ((k:Int)<(l.length:Int))=true:=J0 (by omega)
  repeat' first|refine Z1 ?_|refine Z2 ?_|refine Z3 ?_|refine Z5 ?_|refine Jv rfl rfl hlt rfl rfl rfl rfl ?_|refine J0t hx rfl rfl rfl rfl rfl rfl rfl rfl ?_|refine Zd ?_|refine Ze ?_|refine Zf ?_|refine Zo ?_|refine J5 ?_|refine Jd ?_|refine Zp ?_|refine J4 ?_|refine J7 ?_|refine J3 ?_|refine J6 ?_
  exact⟨k+1,hlt,by(try simp only);omega,Jh (Nat.le_of_ble_eq_true rfl) ⟨⟨rfl,rfl⟩,⟨rfl,rfl⟩,⟨rfl,rfl⟩,trivial⟩ ⟨⟨rfl,Je rfl,J0y _ _ _ _ rfl⟩,trivial⟩⟩
theorem J5m (l:List (Int)) (hw:wL (wNum0) l≤1048576):PFun X 12 [.d (.im (l.map eNum)),.d (.im (l.map eNum))] (vb true):=by
 have ht:(!true)=false:=rfl
 simp only[wL]at hw
 have e0:decide ((l.length:Int)≠(l.length:Int))=false:=J1 (fun h=>h rfl)
 refine Jj Tryz.func12 rfl (by decide) Tryz.ntmps12 Tryz.results12 (by simp) rfl rfl ?_
 repeat' first|refine Z1 ?_|refine Z2 ?_|refine Z5 ?_|refine Zd ?_|refine Zo ?_|refine J5 ?_|refine Zq ?_|refine J4 ?_|refine J7 ?_|refine J3 ?_
 refine Jo (ι:=Nat) (fun x=>envL [(0,.d (.im (l.map eNum))),(1,.d (.im (l.map eNum))),(4,vb false),(5,vi x)]) (fun x=>stL []) (fun x=>x≤l.length) (fun x=>l.length-x) 0 (Nat.zero_le _) (Jg rfl ⟨.refl _,.refl _,.refl _,.refl _,trivial⟩ trivial) (fun _=>Nat.le_refl 0) ?_
 intro k i1
 rcases hx:l[k]? with _|x
 ·have hle:=Jk hx
  have ek:decide ((k:Int)<(l.length:Int))=false:=J1 (by omega)
  repeat' first|refine Z1 ?_|refine Z2 ?_|refine Z5 ?_|refine Zd ?_|refine Zo ?_|refine J5 ?_|refine Zq ?_|refine Jf ?_|refine J9 ?_|refine J3 ?_|refine Jb ?_|refine Zv ?_|refine Zt ?_
  rfl
 ·obtain⟨hdr,hlt⟩:=Jc hx
  have hwx:=Jz (w:=wNum0) (List.mem_of_getElem? hx)
  have ek:decide ((k:Int)<(l.length:Int))=true:=J0 (by omega)
  have ee:decide (x≠x)=false:=J1 (fun h=>h rfl)
  repeat' first|refine Z1 ?_|refine Z2 ?_|refine Z5 ?_|refine Zd ?_|refine Zf ?_|refine Zw ?_|refine Zx ?_|refine Zz (Ze ⟨rfl,rfl⟩) ?_|refine Zo ?_|refine J5 ?_|refine Jd ?_|refine Jy Jr (by decide +kernel) ?_|refine Zp ?_|refine Zq ?_|refine J4 ?_|refine J7 ?_|refine J3 ?_|refine J6 ?_
  exact⟨k+1,hlt,by(try simp only);omega,Jh (Nat.zero_le _) ⟨⟨rfl,rfl⟩,⟨rfl,rfl⟩,⟨rfl,rfl⟩,⟨rfl,rfl⟩,trivial⟩ trivial⟩
theorem J6S (l:List (List Itm)) (hw:wL (wL wItm) l≤1048576):PFun X 192 [.d (.im (l.map eItms))] (.d (.im (l.map eItms))):=by
 simp only[wL]at hw
 refine Jj Tryz.func192 rfl (by decide) Tryz.ntmps192 Tryz.results192 (by simp) rfl rfl ?_
 repeat' first|refine Z1 ?_|refine Z2 ?_|refine Z5 ?_|refine J0f (k:=l.length) rfl rfl (by omega) rfl rfl rfl rfl rfl rfl ?_|refine Zd ?_|refine Zo ?_|refine J5 ?_|refine J4 ?_
 refine Jo (ι:=Nat) (fun x=>envL [(0,.d (.im (l.map eItms))),(3,.sl 0 0 0 l.length),(4,vi x)]) (fun x=>stL [some (.row 0 91 1 (trk eItms l x [.d (.s (.slice none 0 0))]))]) (fun x=>x≤l.length) (fun x=>l.length-x) 0 (Nat.zero_le _) (Jg rfl ⟨.refl _,.refl _,.refl _,trivial⟩ ⟨⟨rfl,_,rfl,rfl,rfl,rfl,rfl⟩,trivial⟩) (fun _=>Nat.le_refl 1) ?_
 intro k i1
 rcases hx:l[k]? with _|x
 ·have hle:=Jk hx
  have ek:decide ((k:Int)<(l.length:Int))=false:=J1 (by omega)
  repeat' first|refine Z1 ?_|refine Z2 ?_|refine Z5 ?_|refine Zd ?_|refine J0G (J0x hle) 2 rfl rfl rfl ?_|refine Zo ?_|refine J5 ?_|refine Zq ?_|refine Jf ?_|refine J9 ?_|refine J3 ?_|refine Jb ?_|refine Zv ?_|refine Zt ?_
  rfl
 ·obtain⟨hdr,hlt⟩:=Jc hx
  have hwx:=Jz (w:=wL wItm) (List.mem_of_getElem? hx)
  have ek:decide ((k:Int)<(l.length:Int))=true:=J0 (by omega)
  repeat' first|refine Z1 ?_|refine Z2 ?_|refine Z3 ?_|refine Z5 ?_|refine Jv rfl rfl hlt rfl rfl rfl rfl ?_|refine J0t hx rfl rfl rfl rfl rfl rfl rfl rfl ?_|refine Zc (J4P x (by omega)) ?_|refine Zd ?_|refine Ze ?_|refine Zf ?_|refine Zo ?_|refine J5 ?_|refine Jd ?_|refine Zp ?_|refine J4 ?_|refine J7 ?_|refine J3 ?_|refine J6 ?_
  exact⟨k+1,hlt,by(try simp only);omega,Jh (Nat.le_of_ble_eq_true rfl) ⟨⟨rfl,rfl⟩,⟨rfl,rfl⟩,⟨rfl,rfl⟩,trivial⟩ ⟨⟨rfl,Je rfl,J0y _ _ _ _ rfl⟩,trivial⟩⟩
theorem J75 (l:List (List Itm)) (hw:wL (wL wItm) l≤1048576):PFun X 194 [.d (.im (l.map eItms)),.d (.im (l.map eItms))] (vb true):=by
 have ht:(!true)=false:=rfl
 simp only[wL]at hw
 have e0:decide ((l.length:Int)≠(l.length:Int))=false:=J1 (fun h=>h rfl)
 refine Jj Tryz.func194 rfl (by decide) Tryz.ntmps194 Tryz.results194 (by simp) rfl rfl ?_
 repeat' first|refine Z1 ?_|refine Z2 ?_|refine Z5 ?_|refine Zd ?_|refine Zo ?_|refine J5 ?_|refine Zq ?_|refine J4 ?_|refine J7 ?_|refine J3 ?_
 refine Jo (ι:=Nat) (fun x=>envL [(0,.d (.im (l.map eItms))),(1,.d (.im (l.map eItms))),(4,vb false),(5,vi x)]) (fun x=>stL []) (fun x=>x≤l.length) (fun x=>l.length-x) 0 (Nat.zero_le _) (Jg rfl ⟨.refl _,.refl _,.refl _,.refl _,trivial⟩ trivial) (fun _=>Nat.le_refl 0) ?_
 intro k i1
 rcases hx:l[k]? with _|x
 ·have hle:=Jk hx
  have ek:decide ((k:Int)<(l.length:Int))=false:=J1 (by omega)
  repeat' first|refine Z1 ?_|refine Z2 ?_|refine Z5 ?_|refine Zd ?_|refine Zo ?_|refine J5 ?_|refine Zq ?_|refine Jf ?_|refine J9 ?_|refine J3 ?_|refine Jb ?_|refine Zv ?_|refine Zt ?_
  rfl
 ·obtain⟨hdr,hlt⟩:=Jc hx
  have hwx:=Jz (w:=wL wItm) (List.mem_of_getElem? hx)
  have ek:decide ((k:Int)<(l.length:Int))=true:=J0 (by omega)
  repeat' first|refine Z1 ?_|refine Z2 ?_|refine Z5 ?_|refine Zd ?_|refine Zf ?_|refine Zw ?_|refine Zx ?_|refine Zz (Zc (J4N x (by first|omega|(simp only[wL];omega))) ⟨rfl,rfl⟩) ?_|refine Zz (Ze ⟨rfl,rfl⟩) ?_|refine Zo ?_|refine J5 ?_|refine Jd ?_|refine Jy Jr (by decide +kernel) ?_|refine Zp ?_|refine Zq ?_|refine J4 ?_|refine J7 ?_|refine J3 ?_|refine J6 ?_
  exact⟨k+1,hlt,by(try simp only);omega,Jh (Nat.zero_le _) ⟨⟨rfl,rfl⟩,⟨rfl,rfl⟩,⟨rfl,rfl⟩,⟨rfl,rfl⟩,trivial⟩ trivial⟩
theorem J59 (x:Slt) (hw:wSlt x≤1048576):PFun X 158 [.agg ((eSlt x).map .d)] (.agg ((eSlt x).map .d)):=by
 simp only[wSlt]at hw
 refine Jj Tryz.func158 rfl (by decide) Tryz.ntmps158 Tryz.results158 (by simp) rfl rfl ?_
 repeat' first|refine Z1 ?_|refine Z2 ?_|refine Zo ?_|refine J9 ?_|refine Zu ?_
 rfl
theorem J8D (x:Slt) (hw:wSlt x≤1048576):PFun X 163 [.agg ((eSlt x).map .d),.agg ((eSlt x).map .d)] (vb true):=by
 simp only[wSlt]at hw
 have ht:(!true)=false:=rfl
 have e0:decide (x.name≠x.name)=false:=J1 (fun h=>h rfl)
 have e1:decide (x.type≠x.type)=false:=J1 (fun h=>h rfl)
 refine Jj Tryz.func163 rfl (by decide) Tryz.ntmps163 Tryz.results163 (by simp) rfl rfl ?_
 repeat' first|refine Z1 ?_|refine Z2 ?_|refine Zo ?_|refine J5 ?_|refine Zq ?_|refine J7 ?_|refine J9 ?_|refine J3 ?_|refine Zt ?_
 rfl
theorem J4p (l:List (Slt)) (hw:wL (wSlt) l≤1048576):PFun X 111 [.d (.im (l.map eSlt))] (.d (.im (l.map eSlt))):=by
 simp only[wL]at hw
 refine Jj Tryz.func111 rfl (by decide) Tryz.ntmps111 Tryz.results111 (by simp) rfl rfl ?_
 repeat' first|refine Z1 ?_|refine Z2 ?_|refine Z5 ?_|refine J0f (k:=l.length) rfl rfl (by omega) rfl rfl rfl rfl rfl rfl ?_|refine Zd ?_|refine Zo ?_|refine J5 ?_|refine J4 ?_
 refine Jo (ι:=Nat) (fun x=>envL [(0,.d (.im (l.map eSlt))),(3,.sl 0 0 0 l.length),(4,vi x)]) (fun x=>stL [some (.row 0 88 2 (trk eSlt l x [.d (.s (.string .empty)),.d (.s (.int .i64 0))]))]) (fun x=>x≤l.length) (fun x=>l.length-x) 0 (Nat.zero_le _) (Jg rfl ⟨.refl _,.refl _,.refl _,trivial⟩ ⟨⟨rfl,_,rfl,rfl,rfl,rfl,rfl⟩,trivial⟩) (fun _=>Nat.le_refl 1) ?_
 intro k i1
 rcases hx:l[k]? with _|x
 ·have hle:=Jk hx
  have ek:decide ((k:Int)<(l.length:Int))=false:=J1 (by omega)
  repeat' first|refine Z1 ?_|refine Z2 ?_|refine Z5 ?_|refine Zd ?_|refine J0G (J0x hle) 2 rfl rfl rfl ?_|refine Zo ?_|refine J5 ?_|refine Zq ?_|refine Jf ?_|refine J9 ?_|refine J3 ?_|refine Jb ?_|refine Zv ?_|refine Zt ?_
  rfl
 ·obtain⟨hdr,hlt⟩:=Jc hx
  have hwx:=Jz (w:=wSlt) (List.mem_of_getElem? hx)
  have ek:decide ((k:Int)<(l.length:Int))=true:=J0 (by omega)
  repeat' first|refine Z1 ?_|refine Z2 ?_|refine Z3 ?_|refine Z5 ?_|refine Jv rfl rfl hlt rfl rfl rfl rfl ?_|refine J0t hx rfl rfl rfl rfl rfl rfl rfl rfl ?_|refine Zc (J59 x (by omega)) ?_|refine Zd ?_|refine Ze ?_|refine Zf ?_|refine Zo ?_|refine J5 ?_|refine Jd ?_|refine Zp ?_|refine J4 ?_|refine J7 ?_|refine J3 ?_|refine J6 ?_
  exact⟨k+1,hlt,by(try simp only);omega,Jh (Nat.le_of_ble_eq_true rfl) ⟨⟨rfl,rfl⟩,⟨rfl,rfl⟩,⟨rfl,rfl⟩,trivial⟩ ⟨⟨rfl,Je rfl,J0y _ _ _ _ rfl⟩,trivial⟩⟩
theorem J44 (l:List (Slt)) (hw:wL (wSlt) l≤1048576):PFun X 123 [.d (.im (l.map eSlt)),.d (.im (l.map eSlt))] (vb true):=by
 have ht:(!true)=false:=rfl
 simp only[wL]at hw
 have e0:decide ((l.length:Int)≠(l.length:Int))=false:=J1 (fun h=>h rfl)
 refine Jj Tryz.func123 rfl (by decide) Tryz.ntmps123 Tryz.results123 (by simp) rfl rfl ?_
 repeat' first|refine Z1 ?_|refine Z2 ?_|refine Z5 ?_|refine Zd ?_|refine Zo ?_|refine J5 ?_|refine Zq ?_|refine J4 ?_|refine J7 ?_|refine J3 ?_
 refine Jo (ι:=Nat) (fun x=>envL [(0,.d (.im (l.map eSlt))),(1,.d (.im (l.map eSlt))),(4,vb false),(5,vi x)]) (fun x=>stL []) (fun x=>x≤l.length) (fun x=>l.length-x) 0 (Nat.zero_le _) (Jg rfl ⟨.refl _,.refl _,.refl _,.refl _,trivial⟩ trivial) (fun _=>Nat.le_refl 0) ?_
 intro k i1
 rcases hx:l[k]? with _|x
 ·have hle:=Jk hx
  have ek:decide ((k:Int)<(l.length:Int))=false:=J1 (by omega)
  repeat' first|refine Z1 ?_|refine Z2 ?_|refine Z5 ?_|refine Zd ?_|refine Zo ?_|refine J5 ?_|refine Zq ?_|refine Jf ?_|refine J9 ?_|refine J3 ?_|refine Jb ?_|refine Zv ?_|refine Zt ?_
  rfl
 ·obtain⟨hdr,hlt⟩:=Jc hx
  have hwx:=Jz (w:=wSlt) (List.mem_of_getElem? hx)
  have ek:decide ((k:Int)<(l.length:Int))=true:=J0 (by omega)
  repeat' first|refine Z1 ?_|refine Z2 ?_|refine Z5 ?_|refine Zd ?_|refine Zf ?_|refine Zw ?_|refine Zx ?_|refine Zz (Zc (J8D x (by omega)) ⟨rfl,rfl⟩) ?_|refine Zz (Ze ⟨rfl,rfl⟩) ?_|refine Zo ?_|refine J5 ?_|refine Jd ?_|refine Jy Jr (by decide +kernel) ?_|refine Zp ?_|refine Zq ?_|refine J4 ?_|refine J7 ?_|refine J3 ?_|refine J6 ?_
  exact⟨k+1,hlt,by(try simp only);omega,Jh (Nat.zero_le _) ⟨⟨rfl,rfl⟩,⟨rfl,rfl⟩,⟨rfl,rfl⟩,⟨rfl,rfl⟩,trivial⟩ trivial⟩
theorem J94 (x:Sm) (hw:wSm x≤1048576):PFun X 159 [.agg ((eSm x).map .d)] (.agg ((eSm x).map .d)):=by
 simp only[wSm,wL]at hw
 refine Jj Tryz.func159 rfl (by decide) Tryz.ntmps159 Tryz.results159 (by simp) rfl rfl ?_
 repeat' first|refine Z1 ?_|refine Z2 ?_|refine Z5 ?_|refine Zc (J2v x.outs (by simp only[wL];omega)) ?_|refine Zc (J4P x.code (by simp only[wL];omega)) ?_|refine Zc (J6S x.args (by simp only[wL];omega)) ?_|refine Zo ?_|refine J9 ?_|refine Zu ?_
 rfl
theorem Ja2 (x:Sm) (hw:wSm x≤1048576):PFun X 164 [.agg ((eSm x).map .d),.agg ((eSm x).map .d)] (vb true):=by
 simp only[wSm,wL]at hw
 have ht:(!true)=false:=rfl
 have e0:decide (x.kind≠x.kind)=false:=J1 (fun h=>h rfl)
 have e1:decide (x.name≠x.name)=false:=J1 (fun h=>h rfl)
 have e2:decide (x.pos≠x.pos)=false:=J1 (fun h=>h rfl)
 refine Jj Tryz.func164 rfl (by decide) Tryz.ntmps164 Tryz.results164 (by simp) rfl rfl ?_
 repeat' first|refine Z1 ?_|refine Z2 ?_|refine Z5 ?_|refine Zc (J33 x.outs (by first|omega|(simp only[wL];omega))) ?_|refine Zc (J4N x.code (by first|omega|(simp only[wL];omega))) ?_|refine Zc (J75 x.args (by first|omega|(simp only[wL];omega))) ?_|refine Zo ?_|refine J5 ?_|refine Zq ?_|refine J7 ?_|refine J9 ?_|refine J3 ?_|refine Zt ?_
 rfl
theorem J8z (l:List (Sm)) (hw:wL (wSm) l≤1048576):PFun X 113 [.d (.im (l.map eSm))] (.d (.im (l.map eSm))):=by
 simp only[wL]at hw
 refine Jj Tryz.func113 rfl (by decide) Tryz.ntmps113 Tryz.results113 (by simp) rfl rfl ?_
 repeat' first|refine Z1 ?_|refine Z2 ?_|refine Z5 ?_|refine J0f (k:=l.length) rfl rfl (by omega) rfl rfl rfl rfl rfl rfl ?_|refine Zd ?_|refine Zo ?_|refine J5 ?_|refine J4 ?_
 refine Jo (ι:=Nat) (fun x=>envL [(0,.d (.im (l.map eSm))),(3,.sl 0 0 0 l.length),(4,vi x)]) (fun x=>stL [some (.row 0 96 6 (trk eSm l x [.d (.s (.int .i64 0)),.d (.s (.string .empty)),.d (.s (.int .i64 0)),.d (.s (.slice none 0 0)),.d (.s (.slice none 0 0)),.d (.s (.slice none 0 0))]))]) (fun x=>x≤l.length) (fun x=>l.length-x) 0 (Nat.zero_le _) (Jg rfl ⟨.refl _,.refl _,.refl _,trivial⟩ ⟨⟨rfl,_,rfl,rfl,rfl,rfl,rfl⟩,trivial⟩) (fun _=>Nat.le_refl 1) ?_
 intro k i1
 rcases hx:l[k]? with _|x
 ·have hle:=Jk hx
  have ek:decide ((k:Int)<(l.length:Int))=false:=J1 (by omega)
  repeat' first|refine Z1 ?_|refine Z2 ?_|refine Z5 ?_|refine Zd ?_|refine J0G (J0x hle) 2 rfl rfl rfl ?_|refine Zo ?_|refine J5 ?_|refine Zq ?_|refine Jf ?_|refine J9 ?_|refine J3 ?_|refine Jb ?_|refine Zv ?_|refine Zt ?_
  rfl
 ·obtain⟨hdr,hlt⟩:=Jc hx
  have hwx:=Jz (w:=wSm) (List.mem_of_getElem? hx)
  have ek:decide ((k:Int)<(l.length:Int))=true:=J0 (by omega)
  repeat' first|refine Z1 ?_|refine Z2 ?_|refine Z3 ?_|refine Z5 ?_|refine Jv rfl rfl hlt rfl rfl rfl rfl ?_|refine J0t hx rfl rfl rfl rfl rfl rfl rfl rfl ?_|refine Zc (J94 x (by omega)) ?_|refine Zd ?_|refine Ze ?_|refine Zf ?_|refine Zo ?_|refine J5 ?_|refine Jd ?_|refine Zp ?_|refine J4 ?_|refine J7 ?_|refine J3 ?_|refine J6 ?_
  exact⟨k+1,hlt,by(try simp only);omega,Jh (Nat.le_of_ble_eq_true rfl) ⟨⟨rfl,rfl⟩,⟨rfl,rfl⟩,⟨rfl,rfl⟩,trivial⟩ ⟨⟨rfl,Je rfl,J0y _ _ _ _ rfl⟩,trivial⟩⟩
theorem J8H (l:List (Sm)) (hw:wL (wSm) l≤1048576):PFun X 125 [.d (.im (l.map eSm)),.d (.im (l.map eSm))] (vb true):=by
 have ht:(!true)=false:=rfl
 simp only[wL]at hw
 have e0:decide ((l.length:Int)≠(l.length:Int))=false:=J1 (fun h=>h rfl)
 refine Jj Tryz.func125 rfl (by decide) Tryz.ntmps125 Tryz.results125 (by simp) rfl rfl ?_
 repeat' first|refine Z1 ?_|refine Z2 ?_|refine Z5 ?_|refine Zd ?_|refine Zo ?_|refine J5 ?_|refine Zq ?_|refine J4 ?_|refine J7 ?_|refine J3 ?_
 refine Jo (ι:=Nat) (fun x=>envL [(0,.d (.im (l.map eSm))),(1,.d (.im (l.map eSm))),(4,vb false),(5,vi x)]) (fun x=>stL []) (fun x=>x≤l.length) (fun x=>l.length-x) 0 (Nat.zero_le _) (Jg rfl ⟨.refl _,.refl _,.refl _,.refl _,trivial⟩ trivial) (fun _=>Nat.le_refl 0) ?_
 intro k i1
 rcases hx:l[k]? with _|x
 ·have hle:=Jk hx
  have ek:decide ((k:Int)<(l.length:Int))=false:=J1 (by omega)
  repeat' first|refine Z1 ?_|refine Z2 ?_|refine Z5 ?_|refine Zd ?_|refine Zo ?_|refine J5 ?_|refine Zq ?_|refine Jf ?_|refine J9 ?_|refine J3 ?_|refine Jb ?_|refine Zv ?_|refine Zt ?_
  rfl
 ·obtain⟨hdr,hlt⟩:=Jc hx
  have hwx:=Jz (w:=wSm) (List.mem_of_getElem? hx)
  have ek:decide ((k:Int)<(l.length:Int))=true:=J0 (by omega)
  repeat' first|refine Z1 ?_|refine Z2 ?_|refine Z5 ?_|refine Zd ?_|refine Zf ?_|refine Zw ?_|refine Zx ?_|refine Zz (Zc (Ja2 x (by omega)) ⟨rfl,rfl⟩) ?_|refine Zz (Ze ⟨rfl,rfl⟩) ?_|refine Zo ?_|refine J5 ?_|refine Jd ?_|refine Jy Jr (by decide +kernel) ?_|refine Zp ?_|refine Zq ?_|refine J4 ?_|refine J7 ?_|refine J3 ?_|refine J6 ?_
  exact⟨k+1,hlt,by(try simp only);omega,Jh (Nat.zero_le _) ⟨⟨rfl,rfl⟩,⟨rfl,rfl⟩,⟨rfl,rfl⟩,⟨rfl,rfl⟩,trivial⟩ trivial⟩
theorem J7G (x:Cls) (hw:wCls x≤1048576):PFun X 69 [.agg ((eCls x).map .d)] (.agg ((eCls x).map .d)):=by
 simp only[wCls,wL]at hw
 refine Jj Tryz.func69 rfl (by decide) Tryz.ntmps69 Tryz.results69 (by simp) rfl rfl ?_
 repeat' first|refine Z1 ?_|refine Z2 ?_|refine Z5 ?_|refine Zc (J4p x.ins (by simp only[wL];omega)) ?_|refine Zc (J4p x.outs (by simp only[wL];omega)) ?_|refine Zc (J2v x.locs (by simp only[wL];omega)) ?_|refine Zc (J5C x.mems (by simp only[wL];omega)) ?_|refine Zc (J5C x.insts (by simp only[wL];omega)) ?_|refine Zc (J8z x.body (by simp only[wL];omega)) ?_|refine Zo ?_|refine J9 ?_|refine Zu ?_
 rfl
theorem J7w (x:Cls) (hw:wCls x≤1048576):PFun X 73 [.agg ((eCls x).map .d),.agg ((eCls x).map .d)] (vb true):=by
 simp only[wCls,wL]at hw
 have ht:(!true)=false:=rfl
 have e0:decide (x.name≠x.name)=false:=J1 (fun h=>h rfl)
 refine Jj Tryz.func73 rfl (by decide) Tryz.ntmps73 Tryz.results73 (by simp) rfl rfl ?_
 repeat' first|refine Z1 ?_|refine Z2 ?_|refine Z5 ?_|refine Zc (J44 x.ins (by first|omega|(simp only[wL];omega))) ?_|refine Zc (J44 x.outs (by first|omega|(simp only[wL];omega))) ?_|refine Zc (J33 x.locs (by first|omega|(simp only[wL];omega))) ?_|refine Zc (J5m x.mems (by first|omega|(simp only[wL];omega))) ?_|refine Zc (J5m x.insts (by first|omega|(simp only[wL];omega))) ?_|refine Zc (J8H x.body (by first|omega|(simp only[wL];omega))) ?_|refine Zo ?_|refine J5 ?_|refine Zq ?_|refine J7 ?_|refine J9 ?_|refine J3 ?_|refine Zt ?_
 rfl
theorem J6r (l:List (Cls)) (hw:wL (wCls) l≤1048576):PFun X 29 [.d (.im (l.map eCls))] (.d (.im (l.map eCls))):=by
 simp only[wL]at hw
 refine Jj Tryz.func29 rfl (by decide) Tryz.ntmps29 Tryz.results29 (by simp) rfl rfl ?_
 repeat' first|refine Z1 ?_|refine Z2 ?_|refine Z5 ?_|refine J0f (k:=l.length) rfl rfl (by omega) rfl rfl rfl rfl rfl rfl ?_|refine Zd ?_|refine Zo ?_|refine J5 ?_|refine J4 ?_
 refine Jo (ι:=Nat) (fun x=>envL [(0,.d (.im (l.map eCls))),(3,.sl 0 0 0 l.length),(4,vi x)]) (fun x=>stL [some (.row 0 53 7 (trk eCls l x [.d (.s (.string .empty)),.d (.s (.slice none 0 0)),.d (.s (.slice none 0 0)),.d (.s (.slice none 0 0)),.d (.s (.slice none 0 0)),.d (.s (.slice none 0 0)),.d (.s (.slice none 0 0))]))]) (fun x=>x≤l.length) (fun x=>l.length-x) 0 (Nat.zero_le _) (Jg rfl ⟨.refl _,.refl _,.refl _,trivial⟩ ⟨⟨rfl,_,rfl,rfl,rfl,rfl,rfl⟩,trivial⟩) (fun _=>Nat.le_refl 1) ?_
 intro k i1
 rcases hx:l[k]? with _|x
 ·have hle:=Jk hx
  have ek:decide ((k:Int)<(l.length:Int))=false:=J1 (by omega)
  repeat' first|refine Z1 ?_|refine Z2 ?_|refine Z5 ?_|refine Zd ?_|refine J0G (J0x hle) 2 rfl rfl rfl ?_|refine Zo ?_|refine J5 ?_|refine Zq ?_|refine Jf ?_|refine J9 ?_|refine J3 ?_|refine Jb ?_|refine Zv ?_|refine Zt ?_
  rfl
 ·obtain⟨hdr,hlt⟩:=Jc hx
  have hwx:=Jz (w:=wCls) (List.mem_of_getElem? hx)
  have ek:decide ((k:Int)<(l.length:Int))=true:=J0 (by omega)
  repeat' first|refine Z1 ?_|refine Z2 ?_|refine Z3 ?_|refine Z5 ?_|refine Jv rfl rfl hlt rfl rfl rfl rfl ?_|refine J0t hx rfl rfl rfl rfl rfl rfl rfl rfl ?_|refine Zc (J7G x (by omega)) ?_|refine Zd ?_|refine Ze ?_|refine Zf ?_|refine Zo ?_|refine J5 ?_|refine Jd ?_|refine Zp ?_|refine J4 ?_|refine J7 ?_|refine J3 ?_|refine J6 ?_
  exact⟨k+1,hlt,by(try simp only);omega,Jh (Nat.le_of_ble_eq_true rfl) ⟨⟨rfl,rfl⟩,⟨rfl,rfl⟩,⟨rfl,rfl⟩,trivial⟩ ⟨⟨rfl,Je rfl,J0y _ _ _ _ rfl⟩,trivial⟩⟩
theorem J6U (l:List (Cls)) (hw:wL (wCls) l≤1048576):PFun X 35 [.d (.im (l.map eCls)),.d (.im (l.map eCls))] (vb true):=by
 have ht:(!true)=false:=rfl
 simp only[wL]at hw
 have e0:decide ((l.length:Int)≠(l.length:Int))=false:=J1 (fun h=>h rfl)
 refine Jj Tryz.func35 rfl (by decide) Tryz.ntmps35 Tryz.results35 (by simp) rfl rfl ?_
 repeat' first|refine Z1 ?_|refine Z2 ?_|refine Z5 ?_|refine Zd ?_|refine Zo ?_|refine J5 ?_|refine Zq ?_|refine J4 ?_|refine J7 ?_|refine J3 ?_
 refine Jo (ι:=Nat) (fun x=>envL [(0,.d (.im (l.map eCls))),(1,.d (.im (l.map eCls))),(4,vb false),(5,vi x)]) (fun x=>stL []) (fun x=>x≤l.length) (fun x=>l.length-x) 0 (Nat.zero_le _) (Jg rfl ⟨.refl _,.refl _,.refl _,.refl _,trivial⟩ trivial) (fun _=>Nat.le_refl 0) ?_
 intro k i1
 rcases hx:l[k]? with _|x
 ·have hle:=Jk hx
  have ek:decide ((k:Int)<(l.length:Int))=false:=J1 (by omega)
  repeat' first|refine Z1 ?_|refine Z2 ?_|refine Z5 ?_|refine Zd ?_|refine Zo ?_|refine J5 ?_|refine Zq ?_|refine Jf ?_|refine J9 ?_|refine J3 ?_|refine Jb ?_|refine Zv ?_|refine Zt ?_
  rfl
 ·obtain⟨hdr,hlt⟩:=Jc hx
  have hwx:=Jz (w:=wCls) (List.mem_of_getElem? hx)
  have ek:decide ((k:Int)<(l.length:Int))=true:=J0 (by omega)
  repeat' first|refine Z1 ?_|refine Z2 ?_|refine Z5 ?_|refine Zd ?_|refine Zf ?_|refine Zw ?_|refine Zx ?_|refine Zz (Zc (J7w x (by omega)) ⟨rfl,rfl⟩) ?_|refine Zz (Ze ⟨rfl,rfl⟩) ?_|refine Zo ?_|refine J5 ?_|refine Jd ?_|refine Jy Jr (by decide +kernel) ?_|refine Zp ?_|refine Zq ?_|refine J4 ?_|refine J7 ?_|refine J3 ?_|refine J6 ?_
  exact⟨k+1,hlt,by(try simp only);omega,Jh (Nat.zero_le _) ⟨⟨rfl,rfl⟩,⟨rfl,rfl⟩,⟨rfl,rfl⟩,⟨rfl,rfl⟩,trivial⟩ trivial⟩
theorem J1E (l:List Cls) (hw:wL wCls l≤1048576):PFun X 9 [.agg [.d (.im (l.map eCls))]] (.agg [.d (.im (l.map eCls))]):=by
 refine Jj Tryz.func9 rfl (by decide) Tryz.ntmps9 Tryz.results9 (by simp) rfl rfl ?_
 repeat' first|refine Z1 ?_|refine Z2 ?_|refine Z5 ?_|refine Zc (J6r l hw) ?_|refine Zo ?_|refine J9 ?_|refine Zu ?_
 rfl
theorem J6j (l:List Cls) (hw:wL wCls l≤1048576):PFun X 13 [.agg [.d (.im (l.map eCls))],.agg [.d (.im (l.map eCls))]] (vb true):=by
 have ht:(!true)=false:=rfl
 refine Jj Tryz.func13 rfl (by decide) Tryz.ntmps13 Tryz.results13 (by simp) rfl rfl ?_
 repeat' first|refine Z1 ?_|refine Z2 ?_|refine Z5 ?_|refine Zc (J6U l hw) ?_|refine Zo ?_|refine J5 ?_|refine Zq ?_|refine J7 ?_|refine J9 ?_|refine J3 ?_|refine Zt ?_
 rfl
end Go.Pm
