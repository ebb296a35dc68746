/- Part of the proof: Szm. -/
import Derived.Test.YtdjanhhljinokaaGreatDoorT12
import Derived.Test.YtdjanhhljinokaaGreatDoorT8
import Derived.Test.YtdjanhhljinokaaGreatDoorT19
import Derived.Test.YtdjanhhljinokaaGreatDoorT20
import Derived.Test.YtdjanhhljinokaaGreatDoorT13
import Derived.Test.YtdjanhhljinokaaGreatDoorT7
import Derived.Test.YtdjanhhljinokaaGreatDoorT16
set_option linter.unusedVariables false
set_option linter.unusedSimpArgs false
namespace Go.Pm
attribute [local irreducible] AR Ok inBlock andThen endQ aoper
set_option maxHeartbeats 1000000
open Go.Proofs
theorem J5P (x:Itm) (left:Int) (h0:0≤left) (h1:left≤1048576) (hd:dItm x):PFun X 214 [.agg ((eItm x).map .d),vi left] (vi (subI left (wItm x))):=by
 have hd0:=hd
 have hd0:x.name.size≤9223372036854775807:=hd0
 refine Jn Tryz.func214 rfl (by decide) Tryz.ntmps214 Tryz.results214 (by simp) rfl rfl ?_
 by_cases hn0:left-(x.name.size:Int)<0
 ·have en0:decide (left-(x.name.size:Int)<0)=true:=J0 hn0
  repeat' first|refine Z1 ?_|refine Z2 ?_|refine Z5 ?_|refine Zg ?_|refine Zo ?_|refine J6 ?_|refine Zp ?_|refine Jb ?_|refine J7 ?_|refine Zt ?_
  exact JA (by rw[Jz (by simp only[wItm];omega)])
 have en0:decide (left-(x.name.size:Int)<0)=false:=J1 hn0
 repeat' first|refine Z1 ?_|refine Z2 ?_|refine Z5 ?_|refine Zg ?_|refine Zo ?_|refine J6 ?_|refine Zq ?_|refine J8 ?_|refine Jb ?_|refine J3 ?_|refine Zt ?_
 exact JA (by rw[J2Y (left:=left) (n:=wItm x) (by simp only[wItm];omega)];(simp only[wItm]<;>omega))
theorem J1a (l:List (Itm)) (left:Int) (h0:0≤left) (h1:left≤1048576) (hd:dL (dItm) l):PFun X 186 [.d (.im (l.map eItm)),vi left] (vi (subI left (wL (wItm) l))):=by
 obtain⟨hd1,hd2⟩:=hd
 simp only[mx]at hd1
 refine Jn Tryz.func186 rfl (by decide) Tryz.ntmps186 Tryz.results186 (by simp) rfl rfl ?_
 by_cases hlt:left-(l.length:Int)<0
 ·have e1:decide (left-(l.length:Int)<0)=true:=J0 hlt
  repeat' first|refine Z1 ?_|refine Z2 ?_|refine Z5 ?_|refine Zd ?_|refine Zg ?_|refine Zo ?_|refine J6 ?_|refine Zp ?_|refine Jb ?_|refine J7 ?_|refine Zt ?_
  exact JA (by rw[Jz (by simp only[wL];omega)])
 ·have e1:decide (left-(l.length:Int)<0)=false:=J1 hlt
  repeat' first|refine Z1 ?_|refine Z2 ?_|refine Z5 ?_|refine Zd ?_|refine Zg ?_|refine Zo ?_|refine J6 ?_|refine Zq ?_|refine J5 ?_|refine J8 ?_|refine J3 ?_
  refine Jq (ι:=Nat×Int) (fun x=>envL [(0,.d (.im (l.map eItm))),(1,vi x.2),(4,vi 0),(5,vi x.1)]) (fun x=>stL []) (fun x=>x.1≤l.length∧0≤x.2∧x.2≤left∧subI x.2 ((l.drop x.1).map (wItm)).sum=subI left (wL (wItm) l)) (fun x=>l.length-x.1) (0,left-l.length) (⟨Nat.zero_le _,by simp only;omega,by simp only;omega,by simp only[List.drop_zero];rw[J0c (by omega)];rfl⟩) (Jj rfl ⟨.refl _,.refl _,.refl _,.refl _,trivial⟩ trivial) (fun _=>Nat.le_refl 0) ?_
  rintro⟨k,lf⟩ ⟨i1,i2,i3,i4⟩
  simp only at i1 i2 i3 i4
  rcases hx:l[k]? with _|x
  ·have hle:=Jo hx
   have ek:decide ((k:Int)<(l.length:Int))=false:=J1 (by omega)
   rw[Jr hx]at i4
   repeat' first|refine Z1 ?_|refine Z2 ?_|refine Z5 ?_|refine Zd ?_|refine Zo ?_|refine J6 ?_|refine Zq ?_|refine Jh ?_|refine Jb ?_|refine J3 ?_|refine Ja ?_|refine Zv ?_|refine Zt ?_
   exact JA (by rw[←i4];simp[subI];omega)
  ·obtain⟨hdr,hlt2⟩:=Ji hx
   have ek:decide ((k:Int)<(l.length:Int))=true:=J0 (by omega)
   rw[hdr,List.map_cons,List.sum_cons]at i4
   have hdx:=hd2 x (List.mem_of_getElem? hx)
   by_cases hn:subI lf (wItm x)<0
   ·have en:decide (subI lf (wItm x)<0)=true:=J0 hn
    obtain⟨hn1,hn2⟩:=J01 hn
    repeat' first|refine Z1 ?_|refine Z2 ?_|refine Z5 ?_|refine Zc (J5P x lf i2 (by omega) hdx) ?_|refine Zd ?_|refine Ze ?_|refine Zo ?_|refine J6 ?_|refine Zp ?_|refine J5 ?_|refine J8 ?_|refine Jb ?_|refine J3 ?_|refine J7 ?_|refine J9 ?_|refine Zt ?_
    exact JA (by rw[←i4,Jz (by omega)])
   ·have en:decide (subI lf (wItm x)<0)=false:=J1 hn
    obtain⟨hn1,hn2⟩:=J02 hn i2
    repeat' first|refine Z1 ?_|refine Z2 ?_|refine Z5 ?_|refine Zc (J5P x lf i2 (by omega) hdx) ?_|refine Zd ?_|refine Ze ?_|refine Zf ?_|refine Zo ?_|refine J6 ?_|refine Jf ?_|refine Zp ?_|refine Zq ?_|refine J5 ?_|refine J8 ?_|refine J3 ?_|refine J4 ?_
    exact⟨(k+1,subI lf (wItm x)),⟨by simp only;omega,by simp only;omega,by simp only;omega,by simp only;rw[hn2,J0c hn1];exact i4⟩,by(try simp only);omega,Jl (Nat.zero_le _) ⟨⟨rfl,rfl⟩,⟨rfl,rfl⟩,⟨rfl,rfl⟩,⟨rfl,rfl⟩,trivial⟩ trivial⟩
theorem J3H (l:List (List Itm)) (left:Int) (h0:0≤left) (h1:left≤1048576) (hd:dL (dL dItm) l):PFun X 187 [.d (.im (l.map eItms)),vi left] (vi (subI left (wL (wL wItm) l))):=by
 obtain⟨hd1,hd2⟩:=hd
 simp only[mx]at hd1
 refine Jn Tryz.func187 rfl (by decide) Tryz.ntmps187 Tryz.results187 (by simp) rfl rfl ?_
 by_cases hlt:left-(l.length:Int)<0
 ·have e1:decide (left-(l.length:Int)<0)=true:=J0 hlt
  repeat' first|refine Z1 ?_|refine Z2 ?_|refine Z5 ?_|refine Zd ?_|refine Zg ?_|refine Zo ?_|refine J6 ?_|refine Zp ?_|refine Jb ?_|refine J7 ?_|refine Zt ?_
  exact JA (by rw[Jz (by simp only[wL];omega)])
 ·have e1:decide (left-(l.length:Int)<0)=false:=J1 hlt
  repeat' first|refine Z1 ?_|refine Z2 ?_|refine Z5 ?_|refine Zd ?_|refine Zg ?_|refine Zo ?_|refine J6 ?_|refine Zq ?_|refine J5 ?_|refine J8 ?_|refine J3 ?_
  refine Jq (ι:=Nat×Int) (fun x=>envL [(0,.d (.im (l.map eItms))),(1,vi x.2),(4,vi 0),(5,vi x.1)]) (fun x=>stL []) (fun x=>x.1≤l.length∧0≤x.2∧x.2≤left∧subI x.2 ((l.drop x.1).map (wL wItm)).sum=subI left (wL (wL wItm) l)) (fun x=>l.length-x.1) (0,left-l.length) (⟨Nat.zero_le _,by simp only;omega,by simp only;omega,by simp only[List.drop_zero];rw[J0c (by omega)];rfl⟩) (Jj rfl ⟨.refl _,.refl _,.refl _,.refl _,trivial⟩ trivial) (fun _=>Nat.le_refl 0) ?_
  rintro⟨k,lf⟩ ⟨i1,i2,i3,i4⟩
  simp only at i1 i2 i3 i4
  rcases hx:l[k]? with _|x
  ·have hle:=Jo hx
   have ek:decide ((k:Int)<(l.length:Int))=false:=J1 (by omega)
   rw[Jr hx]at i4
   repeat' first|refine Z1 ?_|refine Z2 ?_|refine Z5 ?_|refine Zd ?_|refine Zo ?_|refine J6 ?_|refine Zq ?_|refine Jh ?_|refine Jb ?_|refine J3 ?_|refine Ja ?_|refine Zv ?_|refine Zt ?_
   exact JA (by rw[←i4];simp[subI];omega)
  ·obtain⟨hdr,hlt2⟩:=Ji hx
   have ek:decide ((k:Int)<(l.length:Int))=true:=J0 (by omega)
   rw[hdr,List.map_cons,List.sum_cons]at i4
   have hdx:=hd2 x (List.mem_of_getElem? hx)
   by_cases hn:subI lf (wL wItm x)<0
   ·have en:decide (subI lf (wL wItm x)<0)=true:=J0 hn
    obtain⟨hn1,hn2⟩:=J01 hn
    repeat' first|refine Z1 ?_|refine Z2 ?_|refine Z5 ?_|refine Zc (J1a x lf i2 (by omega) hdx) ?_|refine Zd ?_|refine Ze ?_|refine Zo ?_|refine J6 ?_|refine Zp ?_|refine J5 ?_|refine J8 ?_|refine Jb ?_|refine J3 ?_|refine J7 ?_|refine J9 ?_|refine Zt ?_
    exact JA (by rw[←i4,Jz (by omega)])
   ·have en:decide (subI lf (wL wItm x)<0)=false:=J1 hn
    obtain⟨hn1,hn2⟩:=J02 hn i2
    repeat' first|refine Z1 ?_|refine Z2 ?_|refine Z5 ?_|refine Zc (J1a x lf i2 (by omega) hdx) ?_|refine Zd ?_|refine Ze ?_|refine Zf ?_|refine Zo ?_|refine J6 ?_|refine Jf ?_|refine Zp ?_|refine Zq ?_|refine J5 ?_|refine J8 ?_|refine J3 ?_|refine J4 ?_
    exact⟨(k+1,subI lf (wL wItm x)),⟨by simp only;omega,by simp only;omega,by simp only;omega,by simp only;rw[hn2,J0c hn1];exact i4⟩,by(try simp only);omega,Jl (Nat.zero_le _) ⟨⟨rfl,rfl⟩,⟨rfl,rfl⟩,⟨rfl,rfl⟩,⟨rfl,rfl⟩,trivial⟩ trivial⟩
theorem JW (l:List (ByteArray)) (left:Int) (h0:0≤left) (h1:left≤1048576) (hd:dL (dStr) l):PFun X 106 [.d (.im (l.map eStr)),vi left] (vi (subI left (wL (wStr) l))):=by
 obtain⟨hd1,hd2⟩:=hd
 simp only[mx]at hd1
 refine Jn Tryz.func106 rfl (by decide) Tryz.ntmps106 Tryz.results106 (by simp) rfl rfl ?_
 by_cases hlt:left-(l.length:Int)<0
 ·have e1:decide (left-(l.length:Int)<0)=true:=J0 hlt
  repeat' first|refine Z1 ?_|refine Z2 ?_|refine Z5 ?_|refine Zd ?_|refine Zg ?_|refine Zo ?_|refine J6 ?_|refine Zp ?_|refine Jb ?_|refine J7 ?_|refine Zt ?_
  exact JA (by rw[Jz (by simp only[wL];omega)])
 ·have e1:decide (left-(l.length:Int)<0)=false:=J1 hlt
  repeat' first|refine Z1 ?_|refine Z2 ?_|refine Z5 ?_|refine Zd ?_|refine Zg ?_|refine Zo ?_|refine J6 ?_|refine Zq ?_|refine J5 ?_|refine J8 ?_|refine J3 ?_
  refine Jq (ι:=Nat×Int) (fun x=>envL [(0,.d (.im (l.map eStr))),(1,vi x.2),(4,vi 0),(5,vi x.1)]) (fun x=>stL []) (fun x=>x.1≤l.length∧0≤x.2∧x.2≤left∧subI x.2 ((l.drop x.1).map (wStr)).sum=subI left (wL (wStr) l)) (fun x=>l.length-x.1) (0,left-l.length) (⟨Nat.zero_le _,by simp only;omega,by simp only;omega,by simp only[List.drop_zero];rw[J0c (by omega)];rfl⟩) (Jj rfl ⟨.refl _,.refl _,.refl _,.refl _,trivial⟩ trivial) (fun _=>Nat.le_refl 0) ?_
  rintro⟨k,lf⟩ ⟨i1,i2,i3,i4⟩
  simp only at i1 i2 i3 i4
  rcases hx:l[k]? with _|x
  ·have hle:=Jo hx
   have ek:decide ((k:Int)<(l.length:Int))=false:=J1 (by omega)
   rw[Jr hx]at i4
   repeat' first|refine Z1 ?_|refine Z2 ?_|refine Z5 ?_|refine Zd ?_|refine Zo ?_|refine J6 ?_|refine Zq ?_|refine Jh ?_|refine Jb ?_|refine J3 ?_|refine Ja ?_|refine Zv ?_|refine Zt ?_
   exact JA (by rw[←i4];simp[subI];omega)
  ·obtain⟨hdr,hlt2⟩:=Ji hx
   have ek:decide ((k:Int)<(l.length:Int))=true:=J0 (by omega)
   rw[hdr,List.map_cons,List.sum_cons]at i4
   have hdx:=hd2 x (List.mem_of_getElem? hx)
   simp only[dStr,mx]at hdx
   simp only[wStr]at i4
   by_cases hn:lf-(x.size:Int)<0
   ·have en:decide (lf-(x.size:Int)<0)=true:=J0 hn
    have hn1:lf<(x.size:Int):=by omega
    repeat' first|refine Z1 ?_|refine Z2 ?_|refine Z5 ?_|refine Zd ?_|refine Ze ?_|refine Zg ?_|refine Zo ?_|refine J6 ?_|refine Zp ?_|refine J5 ?_|refine J8 ?_|refine Jb ?_|refine J3 ?_|refine J7 ?_|refine J9 ?_|refine Zt ?_
    exact JA (by rw[←i4,Jz (by omega)])
   ·have en:decide (lf-(x.size:Int)<0)=false:=J1 hn
    have hn1:(x.size:Int)≤lf:=by omega
    repeat' first|refine Z1 ?_|refine Z2 ?_|refine Z5 ?_|refine Zd ?_|refine Ze ?_|refine Zf ?_|refine Zg ?_|refine Zo ?_|refine J6 ?_|refine Jf ?_|refine Zp ?_|refine Zq ?_|refine J5 ?_|refine J8 ?_|refine J3 ?_|refine J4 ?_
    exact⟨(k+1,lf-(x.size:Int)),⟨by simp only;omega,by simp only;omega,by simp only;omega,by simp only;rw[J0c hn1];exact i4⟩,by(try simp only);omega,Jl (Nat.zero_le _) ⟨⟨rfl,rfl⟩,⟨rfl,rfl⟩,⟨rfl,rfl⟩,⟨rfl,rfl⟩,trivial⟩ trivial⟩
theorem J5C (x:Slt) (left:Int) (h0:0≤left) (h1:left≤1048576) (hd:dSlt x):PFun X 153 [.agg ((eSlt x).map .d),vi left] (vi (subI left (wSlt x))):=by
 have hd0:=hd
 have hd0:x.name.size≤9223372036854775807:=hd0
 refine Jn Tryz.func153 rfl (by decide) Tryz.ntmps153 Tryz.results153 (by simp) rfl rfl ?_
 by_cases hn0:left-(x.name.size:Int)<0
 ·have en0:decide (left-(x.name.size:Int)<0)=true:=J0 hn0
  repeat' first|refine Z1 ?_|refine Z2 ?_|refine Z5 ?_|refine Zg ?_|refine Zo ?_|refine J6 ?_|refine Zp ?_|refine Jb ?_|refine J7 ?_|refine Zt ?_
  exact JA (by rw[Jz (by simp only[wSlt];omega)])
 have en0:decide (left-(x.name.size:Int)<0)=false:=J1 hn0
 repeat' first|refine Z1 ?_|refine Z2 ?_|refine Z5 ?_|refine Zg ?_|refine Zo ?_|refine J6 ?_|refine Zq ?_|refine J8 ?_|refine Jb ?_|refine J3 ?_|refine Zt ?_
 exact JA (by rw[J2Y (left:=left) (n:=wSlt x) (by simp only[wSlt];omega)];(simp only[wSlt]<;>omega))
theorem JR (l:List (Slt)) (left:Int) (h0:0≤left) (h1:left≤1048576) (hd:dL (dSlt) l):PFun X 105 [.d (.im (l.map eSlt)),vi left] (vi (subI left (wL (wSlt) l))):=by
 obtain⟨hd1,hd2⟩:=hd
 simp only[mx]at hd1
 refine Jn Tryz.func105 rfl (by decide) Tryz.ntmps105 Tryz.results105 (by simp) rfl rfl ?_
 by_cases hlt:left-(l.length:Int)<0
 ·have e1:decide (left-(l.length:Int)<0)=true:=J0 hlt
  repeat' first|refine Z1 ?_|refine Z2 ?_|refine Z5 ?_|refine Zd ?_|refine Zg ?_|refine Zo ?_|refine J6 ?_|refine Zp ?_|refine Jb ?_|refine J7 ?_|refine Zt ?_
  exact JA (by rw[Jz (by simp only[wL];omega)])
 ·have e1:decide (left-(l.length:Int)<0)=false:=J1 hlt
  repeat' first|refine Z1 ?_|refine Z2 ?_|refine Z5 ?_|refine Zd ?_|refine Zg ?_|refine Zo ?_|refine J6 ?_|refine Zq ?_|refine J5 ?_|refine J8 ?_|refine J3 ?_
  refine Jq (ι:=Nat×Int) (fun x=>envL [(0,.d (.im (l.map eSlt))),(1,vi x.2),(4,vi 0),(5,vi x.1)]) (fun x=>stL []) (fun x=>x.1≤l.length∧0≤x.2∧x.2≤left∧subI x.2 ((l.drop x.1).map (wSlt)).sum=subI left (wL (wSlt) l)) (fun x=>l.length-x.1) (0,left-l.length) (⟨Nat.zero_le _,by simp only;omega,by simp only;omega,by simp only[List.drop_zero];rw[J0c (by omega)];rfl⟩) (Jj rfl ⟨.refl _,.refl _,.refl _,.refl _,trivial⟩ trivial) (fun _=>Nat.le_refl 0) ?_
  rintro⟨k,lf⟩ ⟨i1,i2,i3,i4⟩
  simp only at i1 i2 i3 i4
  rcases hx:l[k]? with _|x
  ·have hle:=Jo hx
   have ek:decide ((k:Int)<(l.length:Int))=false:=J1 (by omega)
   rw[Jr hx]at i4
   repeat' first|refine Z1 ?_|refine Z2 ?_|refine Z5 ?_|refine Zd ?_|refine Zo ?_|refine J6 ?_|refine Zq ?_|refine Jh ?_|refine Jb ?_|refine J3 ?_|refine Ja ?_|refine Zv ?_|refine Zt ?_
   exact JA (by rw[←i4];simp[subI];omega)
  ·obtain⟨hdr,hlt2⟩:=Ji hx
   have ek:decide ((k:Int)<(l.length:Int))=true:=J0 (by omega)
   rw[hdr,List.map_cons,List.sum_cons]at i4
   have hdx:=hd2 x (List.mem_of_getElem? hx)
   by_cases hn:subI lf (wSlt x)<0
   ·have en:decide (subI lf (wSlt x)<0)=true:=J0 hn
    obtain⟨hn1,hn2⟩:=J01 hn
    repeat' first|refine Z1 ?_|refine Z2 ?_|refine Z5 ?_|refine Zc (J5C x lf i2 (by omega) hdx) ?_|refine Zd ?_|refine Ze ?_|refine Zo ?_|refine J6 ?_|refine Zp ?_|refine J5 ?_|refine J8 ?_|refine Jb ?_|refine J3 ?_|refine J7 ?_|refine J9 ?_|refine Zt ?_
    exact JA (by rw[←i4,Jz (by omega)])
   ·have en:decide (subI lf (wSlt x)<0)=false:=J1 hn
    obtain⟨hn1,hn2⟩:=J02 hn i2
    repeat' first|refine Z1 ?_|refine Z2 ?_|refine Z5 ?_|refine Zc (J5C x lf i2 (by omega) hdx) ?_|refine Zd ?_|refine Ze ?_|refine Zf ?_|refine Zo ?_|refine J6 ?_|refine Jf ?_|refine Zp ?_|refine Zq ?_|refine J5 ?_|refine J8 ?_|refine J3 ?_|refine J4 ?_
    exact⟨(k+1,subI lf (wSlt x)),⟨by simp only;omega,by simp only;omega,by simp only;omega,by simp only;rw[hn2,J0c hn1];exact i4⟩,by(try simp only);omega,Jl (Nat.zero_le _) ⟨⟨rfl,rfl⟩,⟨rfl,rfl⟩,⟨rfl,rfl⟩,⟨rfl,rfl⟩,trivial⟩ trivial⟩
theorem J0B (l:List Int) (left:Int) (h0:0≤left) (h1:left≤1048576) (hd:dNums l):PFun X 107 [.d (.im (l.map eNum)),vi left] (vi (subI left (wL wNum0 l))):=by
 have hd1:l.length≤9223372036854775807:=hd
 have hw0:=J3u l
 refine Jn Tryz.func107 rfl (by decide) Tryz.ntmps107 Tryz.results107 (by simp) rfl rfl ?_
 by_cases hlt:left-(l.length:Int)<0
 ·have e1:decide (left-(l.length:Int)<0)=true:=J0 hlt
  repeat' first|refine Z1 ?_|refine Z2 ?_|refine Z5 ?_|refine Zd ?_|refine Zg ?_|refine Zo ?_|refine J6 ?_|refine Zp ?_|refine Jb ?_|refine J7 ?_|refine Zt ?_
  exact JA (by rw[Jz (by simp only[wL];omega)])
 ·have e1:decide (left-(l.length:Int)<0)=false:=J1 hlt
  repeat' first|refine Z1 ?_|refine Z2 ?_|refine Z5 ?_|refine Zd ?_|refine Zg ?_|refine Zo ?_|refine J6 ?_|refine Zq ?_|refine J8 ?_|refine Jb ?_|refine J3 ?_|refine Zt ?_
  exact JA (by rw[J2Y (by simp only[wL];omega)];simp only[wL];omega)
theorem J6U (x:Sm) (left:Int) (h0:0≤left) (h1:left≤1048576) (hd:dSm x):PFun X 154 [.agg ((eSm x).map .d),vi left] (vi (subI left (wSm x))):=by
 obtain⟨hd0,hd1,hd2,hd3⟩:=hd
 have hd0:x.name.size≤9223372036854775807:=hd0
 refine Jn Tryz.func154 rfl (by decide) Tryz.ntmps154 Tryz.results154 (by simp) rfl rfl ?_
 by_cases hn0:left-(x.name.size:Int)<0
 ·have en0:decide (left-(x.name.size:Int)<0)=true:=J0 hn0
  repeat' first|refine Z1 ?_|refine Z2 ?_|refine Z5 ?_|refine Zg ?_|refine Zo ?_|refine J6 ?_|refine Zp ?_|refine Jb ?_|refine J7 ?_|refine Zt ?_
  exact JA (by rw[Jz (by simp only[wSm];omega)])
 have en0:decide (left-(x.name.size:Int)<0)=false:=J1 hn0
 by_cases hn1:subI (left-(x.name.size:Int)) (wL wStr x.outs)<0
 ·have en1:decide (subI (left-(x.name.size:Int)) (wL wStr x.outs)<0)=true:=J0 hn1
  obtain⟨ha1,hb1⟩:=J01 hn1
  repeat' first|refine Z1 ?_|refine Z2 ?_|refine Z5 ?_|refine Zc (JW x.outs (left-(x.name.size:Int)) (by omega) (by omega) hd1) ?_|refine Zg ?_|refine Zo ?_|refine J6 ?_|refine Zp ?_|refine Zq ?_|refine J8 ?_|refine Jb ?_|refine J3 ?_|refine J7 ?_|refine Zt ?_
  exact JA (by rw[Jz (by simp only[wSm];omega)])
 have en1:decide (subI (left-(x.name.size:Int)) (wL wStr x.outs)<0)=false:=J1 hn1
 obtain⟨ha1,hb1⟩:=J02 hn1 (by omega)
 by_cases hn2:subI (subI (left-(x.name.size:Int)) (wL wStr x.outs)) (wL wItm x.code)<0
 ·have en2:decide (subI (subI (left-(x.name.size:Int)) (wL wStr x.outs)) (wL wItm x.code)<0)=true:=J0 hn2
  obtain⟨ha2,hb2⟩:=J01 hn2
  repeat' first|refine Z1 ?_|refine Z2 ?_|refine Z5 ?_|refine Zc (JW x.outs (left-(x.name.size:Int)) (by omega) (by omega) hd1) ?_|refine Zc (J1a x.code (subI (left-(x.name.size:Int)) (wL wStr x.outs)) (by omega) (by omega) hd2) ?_|refine Zg ?_|refine Zo ?_|refine J6 ?_|refine Zp ?_|refine Zq ?_|refine J8 ?_|refine Jb ?_|refine J3 ?_|refine J7 ?_|refine Zt ?_
  exact JA (by rw[Jz (by simp only[wSm];omega)])
 have en2:decide (subI (subI (left-(x.name.size:Int)) (wL wStr x.outs)) (wL wItm x.code)<0)=false:=J1 hn2
 obtain⟨ha2,hb2⟩:=J02 hn2 (by omega)
 by_cases hn3:subI (subI (subI (left-(x.name.size:Int)) (wL wStr x.outs)) (wL wItm x.code)) (wL (wL wItm) x.args)<0
 ·have en3:decide (subI (subI (subI (left-(x.name.size:Int)) (wL wStr x.outs)) (wL wItm x.code)) (wL (wL wItm) x.args)<0)=true:=J0 hn3
  obtain⟨ha3,hb3⟩:=J01 hn3
  repeat' first|refine Z1 ?_|refine Z2 ?_|refine Z5 ?_|refine Zc (JW x.outs (left-(x.name.size:Int)) (by omega) (by omega) hd1) ?_|refine Zc (J1a x.code (subI (left-(x.name.size:Int)) (wL wStr x.outs)) (by omega) (by omega) hd2) ?_|refine Zc (J3H x.args (subI (subI (left-(x.name.size:Int)) (wL wStr x.outs)) (wL wItm x.code)) (by omega) (by omega) hd3) ?_|refine Zg ?_|refine Zo ?_|refine J6 ?_|refine Zp ?_|refine Zq ?_|refine J8 ?_|refine Jb ?_|refine J3 ?_|refine J7 ?_|refine Zt ?_
  exact JA (by rw[Jz (by simp only[wSm];omega)])
 have en3:decide (subI (subI (subI (left-(x.name.size:Int)) (wL wStr x.outs)) (wL wItm x.code)) (wL (wL wItm) x.args)<0)=false:=J1 hn3
 obtain⟨ha3,hb3⟩:=J02 hn3 (by omega)
 repeat' first|refine Z1 ?_|refine Z2 ?_|refine Z5 ?_|refine Zc (JW x.outs (left-(x.name.size:Int)) (by omega) (by omega) hd1) ?_|refine Zc (J1a x.code (subI (left-(x.name.size:Int)) (wL wStr x.outs)) (by omega) (by omega) hd2) ?_|refine Zc (J3H x.args (subI (subI (left-(x.name.size:Int)) (wL wStr x.outs)) (wL wItm x.code)) (by omega) (by omega) hd3) ?_|refine Zg ?_|refine Zo ?_|refine J6 ?_|refine Zq ?_|refine J8 ?_|refine Jb ?_|refine J3 ?_|refine Zt ?_
 exact JA (by rw[J2Y (left:=left) (n:=wSm x) (by simp only[wSm];omega)];(simp only[wSm]<;>omega))
theorem J5w (l:List (Sm)) (left:Int) (h0:0≤left) (h1:left≤1048576) (hd:dL (dSm) l):PFun X 108 [.d (.im (l.map eSm)),vi left] (vi (subI left (wL (wSm) l))):=by
 obtain⟨hd1,hd2⟩:=hd
 simp only[mx]at hd1
 refine Jn Tryz.func108 rfl (by decide) Tryz.ntmps108 Tryz.results108 (by simp) rfl rfl ?_
 by_cases hlt:left-(l.length:Int)<0
 ·have e1:decide (left-(l.length:Int)<0)=true:=J0 hlt
  repeat' first|refine Z1 ?_|refine Z2 ?_|refine Z5 ?_|refine Zd ?_|refine Zg ?_|refine Zo ?_|refine J6 ?_|refine Zp ?_|refine Jb ?_|refine J7 ?_|refine Zt ?_
  exact JA (by rw[Jz (by simp only[wL];omega)])
 ·have e1:decide (left-(l.length:Int)<0)=false:=J1 hlt
  repeat' first|refine Z1 ?_|refine Z2 ?_|refine Z5 ?_|refine Zd ?_|refine Zg ?_|refine Zo ?_|refine J6 ?_|refine Zq ?_|refine J5 ?_|refine J8 ?_|refine J3 ?_
  refine Jq (ι:=Nat×Int) (fun x=>envL [(0,.d (.im (l.map eSm))),(1,vi x.2),(4,vi 0),(5,vi x.1)]) (fun x=>stL []) (fun x=>x.1≤l.length∧0≤x.2∧x.2≤left∧subI x.2 ((l.drop x.1).map (wSm)).sum=subI left (wL (wSm) l)) (fun x=>l.length-x.1) (0,left-l.length) (⟨Nat.zero_le _,by simp only;omega,by simp only;omega,by simp only[List.drop_zero];rw[J0c (by omega)];rfl⟩) (Jj rfl ⟨.refl _,.refl _,.refl _,.refl _,trivial⟩ trivial) (fun _=>Nat.le_refl 0) ?_
  rintro⟨k,lf⟩ ⟨i1,i2,i3,i4⟩
  simp only at i1 i2 i3 i4
  rcases hx:l[k]? with _|x
  ·have hle:=Jo hx
   have ek:decide ((k:Int)<(l.length:Int))=false:=J1 (by omega)
   rw[Jr hx]at i4
   repeat' first|refine Z1 ?_|refine Z2 ?_|refine Z5 ?_|refine Zd ?_|refine Zo ?_|refine J6 ?_|refine Zq ?_|refine Jh ?_|refine Jb ?_|refine J3 ?_|refine Ja ?_|refine Zv ?_|refine Zt ?_
   exact JA (by rw[←i4];simp[subI];omega)
  ·obtain⟨hdr,hlt2⟩:=Ji hx
   have ek:decide ((k:Int)<(l.length:Int))=true:=J0 (by omega)
   rw[hdr,List.map_cons,List.sum_cons]at i4
   have hdx:=hd2 x (List.mem_of_getElem? hx)
   by_cases hn:subI lf (wSm x)<0
   ·have en:decide (subI lf (wSm x)<0)=true:=J0 hn
    obtain⟨hn1,hn2⟩:=J01 hn
    repeat' first|refine Z1 ?_|refine Z2 ?_|refine Z5 ?_|refine Zc (J6U x lf i2 (by omega) hdx) ?_|refine Zd ?_|refine Ze ?_|refine Zo ?_|refine J6 ?_|refine Zp ?_|refine J5 ?_|refine J8 ?_|refine Jb ?_|refine J3 ?_|refine J7 ?_|refine J9 ?_|refine Zt ?_
    exact JA (by rw[←i4,Jz (by omega)])
   ·have en:decide (subI lf (wSm x)<0)=false:=J1 hn
    obtain⟨hn1,hn2⟩:=J02 hn i2
    repeat' first|refine Z1 ?_|refine Z2 ?_|refine Z5 ?_|refine Zc (J6U x lf i2 (by omega) hdx) ?_|refine Zd ?_|refine Ze ?_|refine Zf ?_|refine Zo ?_|refine J6 ?_|refine Jf ?_|refine Zp ?_|refine Zq ?_|refine J5 ?_|refine J8 ?_|refine J3 ?_|refine J4 ?_
    exact⟨(k+1,subI lf (wSm x)),⟨by simp only;omega,by simp only;omega,by simp only;omega,by simp only;rw[hn2,J0c hn1];exact i4⟩,by(try simp only);omega,Jl (Nat.zero_le _) ⟨⟨rfl,rfl⟩,⟨rfl,rfl⟩,⟨rfl,rfl⟩,⟨rfl,rfl⟩,trivial⟩ trivial⟩
theorem J4E (x:Cls) (left:Int) (h0:0≤left) (h1:left≤1048576) (hd:dCls x):PFun X 65 [.agg ((eCls x).map .d),vi left] (vi (subI left (wCls x))):=by
 obtain⟨hd0,hd1,hd2,hd3,hd4,hd5,hd6⟩:=hd
 have hd0:x.name.size≤9223372036854775807:=hd0
 refine Jn Tryz.func65 rfl (by decide) Tryz.ntmps65 Tryz.results65 (by simp) rfl rfl ?_
 by_cases hn0:left-(x.name.size:Int)<0
 ·have en0:decide (left-(x.name.size:Int)<0)=true:=J0 hn0
  repeat' first|refine Z1 ?_|refine Z2 ?_|refine Z5 ?_|refine Zg ?_|refine Zo ?_|refine J6 ?_|refine Zp ?_|refine Jb ?_|refine J7 ?_|refine Zt ?_
  exact JA (by rw[Jz (by simp only[wCls];omega)])
 have en0:decide (left-(x.name.size:Int)<0)=false:=J1 hn0
 by_cases hn1:subI (left-(x.name.size:Int)) (wL wSlt x.ins)<0
 ·have en1:decide (subI (left-(x.name.size:Int)) (wL wSlt x.ins)<0)=true:=J0 hn1
  obtain⟨ha1,hb1⟩:=J01 hn1
  repeat' first|refine Z1 ?_|refine Z2 ?_|refine Z5 ?_|refine Zc (JR x.ins (left-(x.name.size:Int)) (by omega) (by omega) hd1) ?_|refine Zg ?_|refine Zo ?_|refine J6 ?_|refine Zp ?_|refine Zq ?_|refine J8 ?_|refine Jb ?_|refine J3 ?_|refine J7 ?_|refine Zt ?_
  exact JA (by rw[Jz (by simp only[wCls];omega)])
 have en1:decide (subI (left-(x.name.size:Int)) (wL wSlt x.ins)<0)=false:=J1 hn1
 obtain⟨ha1,hb1⟩:=J02 hn1 (by omega)
 by_cases hn2:subI (subI (left-(x.name.size:Int)) (wL wSlt x.ins)) (wL wSlt x.outs)<0
 ·have en2:decide (subI (subI (left-(x.name.size:Int)) (wL wSlt x.ins)) (wL wSlt x.outs)<0)=true:=J0 hn2
  obtain⟨ha2,hb2⟩:=J01 hn2
  repeat' first|refine Z1 ?_|refine Z2 ?_|refine Z5 ?_|refine Zc (JR x.ins (left-(x.name.size:Int)) (by omega) (by omega) hd1) ?_|refine Zc (JR x.outs (subI (left-(x.name.size:Int)) (wL wSlt x.ins)) (by omega) (by omega) hd2) ?_|refine Zg ?_|refine Zo ?_|refine J6 ?_|refine Zp ?_|refine Zq ?_|refine J8 ?_|refine Jb ?_|refine J3 ?_|refine J7 ?_|refine Zt ?_
  exact JA (by rw[Jz (by simp only[wCls];omega)])
 have en2:decide (subI (subI (left-(x.name.size:Int)) (wL wSlt x.ins)) (wL wSlt x.outs)<0)=false:=J1 hn2
 obtain⟨ha2,hb2⟩:=J02 hn2 (by omega)
 by_cases hn3:subI (subI (subI (left-(x.name.size:Int)) (wL wSlt x.ins)) (wL wSlt x.outs)) (wL wStr x.locs)<0
 ·have en3:decide (subI (subI (subI (left-(x.name.size:Int)) (wL wSlt x.ins)) (wL wSlt x.outs)) (wL wStr x.locs)<0)=true:=J0 hn3
  obtain⟨ha3,hb3⟩:=J01 hn3
  repeat' first|refine Z1 ?_|refine Z2 ?_|refine Z5 ?_|refine Zc (JR x.ins (left-(x.name.size:Int)) (by omega) (by omega) hd1) ?_|refine Zc (JR x.outs (subI (left-(x.name.size:Int)) (wL wSlt x.ins)) (by omega) (by omega) hd2) ?_|refine Zc (JW x.locs (subI (subI (left-(x.name.size:Int)) (wL wSlt x.ins)) (wL wSlt x.outs)) (by omega) (by omega) hd3) ?_|refine Zg ?_|refine Zo ?_|refine J6 ?_|refine Zp ?_|refine Zq ?_|refine J8 ?_|refine Jb ?_|refine J3 ?_|refine J7 ?_|refine Zt ?_
  exact JA (by rw[Jz (by simp only[wCls];omega)])
 have en3:decide (subI (subI (subI (left-(x.name.size:Int)) (wL wSlt x.ins)) (wL wSlt x.outs)) (wL wStr x.locs)<0)=false:=J1 hn3
 obtain⟨ha3,hb3⟩:=J02 hn3 (by omega)
 by_cases hn4:subI (subI (subI (subI (left-(x.name.size:Int)) (wL wSlt x.ins)) (wL wSlt x.outs)) (wL wStr x.locs)) (wL wNum0 x.mems)<0
 ·have en4:decide (subI (subI (subI (subI (left-(x.name.size:Int)) (wL wSlt x.ins)) (wL wSlt x.outs)) (wL wStr x.locs)) (wL wNum0 x.mems)<0)=true:=J0 hn4
  obtain⟨ha4,hb4⟩:=J01 hn4
  repeat' first|refine Z1 ?_|refine Z2 ?_|refine Z5 ?_|refine Zc (JR x.ins (left-(x.name.size:Int)) (by omega) (by omega) hd1) ?_|refine Zc (JR x.outs (subI (left-(x.name.size:Int)) (wL wSlt x.ins)) (by omega) (by omega) hd2) ?_|refine Zc (JW x.locs (subI (subI (left-(x.name.size:Int)) (wL wSlt x.ins)) (wL wSlt x.outs)) (by omega) (by omega) hd3) ?_|refine Zc (J0B x.mems (subI (subI (subI (left-(x.name.size:Int)) (wL wSlt x.ins)) (wL wSlt x.outs)) (wL wStr x.locs)) (by omega) (by omega) hd4) ?_|refine Zg ?_|refine Zo ?_|refine J6 ?_|refine Zp ?_|refine Zq ?_|refine J8 ?_|refine Jb ?_|refine J3 ?_|refine J7 ?_|refine Zt ?_
  exact JA (by rw[Jz (by simp only[wCls];omega)])
 have en4:decide (subI (subI (subI (subI (left-(x.name.size:Int)) (wL wSlt x.ins)) (wL wSlt x.outs)) (wL wStr x.locs)) (wL wNum0 x.mems)<0)=false:=J1 hn4
 obtain⟨ha4,hb4⟩:=J02 hn4 (by omega)
 by_cases hn5:subI (subI (subI (subI (subI (left-(x.name.size:Int)) (wL wSlt x.ins)) (wL wSlt x.outs)) (wL wStr x.locs)) (wL wNum0 x.mems)) (wL wNum0 x.insts)<0
 ·have en5:decide (subI (subI (subI (subI (subI (left-(x.name.size:Int)) (wL wSlt x.ins)) (wL wSlt x.outs)) (wL wStr x.locs)) (wL wNum0 x.mems)) (wL wNum0 x.insts)<0)=true:=J0 hn5
  obtain⟨ha5,hb5⟩:=J01 hn5
  repeat' first|refine Z1 ?_|refine Z2 ?_|refine Z5 ?_|refine Zc (JR x.ins (left-(x.name.size:Int)) (by omega) (by omega) hd1) ?_|refine Zc (JR x.outs (subI (left-(x.name.size:Int)) (wL wSlt x.ins)) (by omega) (by omega) hd2) ?_|refine Zc (JW x.locs (subI (subI (left-(x.name.size:Int)) (wL wSlt x.ins)) (wL wSlt x.outs)) (by omega) (by omega) hd3) ?_|refine Zc (J0B x.mems (subI (subI (subI (left-(x.name.size:Int)) (wL wSlt x.ins)) (wL wSlt x.outs)) (wL wStr x.locs)) (by omega) (by omega) hd4) ?_|refine Zc (J0B x.insts (subI (subI (subI (subI (left-(x.name.size:Int)) (wL wSlt x.ins)) (wL wSlt x.outs)) (wL wStr x.locs)) (wL wNum0 x.mems)) (by omega) (by omega) hd5) ?_|refine Zg ?_|refine Zo ?_|refine J6 ?_|refine Zp ?_|refine Zq ?_|refine J8 ?_|refine Jb ?_|refine J3 ?_|refine J7 ?_|refine Zt ?_
  exact JA (by rw[Jz (by simp only[wCls];omega)])
 have en5:decide (subI (subI (subI (subI (subI (left-(x.name.size:Int)) (wL wSlt x.ins)) (wL wSlt x.outs)) (wL wStr x.locs)) (wL wNum0 x.mems)) (wL wNum0 x.insts)<0)=false:=J1 hn5
 obtain⟨ha5,hb5⟩:=J02 hn5 (by omega)
 by_cases hn6:subI (subI (subI (subI (subI (subI (left-(x.name.size:Int)) (wL wSlt x.ins)) (wL wSlt x.outs)) (wL wStr x.locs)) (wL wNum0 x.mems)) (wL wNum0 x.insts)) (wL wSm x.body)<0
 ·have en6:decide (subI (subI (subI (subI (subI (subI (left-(x.name.size:Int)) (wL wSlt x.ins)) (wL wSlt x.outs)) (wL wStr x.locs)) (wL wNum0 x.mems)) (wL wNum0 x.insts)) (wL wSm x.body)<0)=true:=J0 hn6
  obtain⟨ha6,hb6⟩:=J01 hn6
  repeat' first|refine Z1 ?_|refine Z2 ?_|refine Z5 ?_|refine Zc (JR x.ins (left-(x.name.size:Int)) (by omega) (by omega) hd1) ?_|refine Zc (JR x.outs (subI (left-(x.name.size:Int)) (wL wSlt x.ins)) (by omega) (by omega) hd2) ?_|refine Zc (JW x.locs (subI (subI (left-(x.name.size:Int)) (wL wSlt x.ins)) (wL wSlt x.outs)) (by omega) (by omega) hd3) ?_|refine Zc (J0B x.mems (subI (subI (subI (left-(x.name.size:Int)) (wL wSlt x.ins)) (wL wSlt x.outs)) (wL wStr x.locs)) (by omega) (by omega) hd4) ?_|refine Zc (J0B x.insts (subI (subI (subI (subI (left-(x.name.size:Int)) (wL wSlt x.ins)) (wL wSlt x.outs)) (wL wStr x.locs)) (wL wNum0 x.mems)) (by omega) (by omega) hd5) ?_|refine Zc (J5w x.body (subI (subI (subI (subI (subI (left-(x.name.size:Int)) (wL wSlt x.ins)) (wL wSlt x.outs)) (wL wStr x.locs)) (wL wNum0 x.mems)) (wL wNum0 x.insts)) (by omega) (by omega) hd6) ?_|refine Zg ?_|refine Zo ?_|refine J6 ?_|refine Zp ?_|refine Zq ?_|refine J8 ?_|refine Jb ?_|refine J3 ?_|refine J7 ?_|refine Zt ?_
  exact JA (by rw[Jz (by simp only[wCls];omega)])
 have en6:decide (subI (subI (subI (subI (subI (subI (left-(x.name.size:Int)) (wL wSlt x.ins)) (wL wSlt x.outs)) (wL wStr x.locs)) (wL wNum0 x.mems)) (wL wNum0 x.insts)) (wL wSm x.body)<0)=false:=J1 hn6
 obtain⟨ha6,hb6⟩:=J02 hn6 (by omega)
 repeat' first|refine Z1 ?_|refine Z2 ?_|refine Z5 ?_|refine Zc (JR x.ins (left-(x.name.size:Int)) (by omega) (by omega) hd1) ?_|refine Zc (JR x.outs (subI (left-(x.name.size:Int)) (wL wSlt x.ins)) (by omega) (by omega) hd2) ?_|refine Zc (JW x.locs (subI (subI (left-(x.name.size:Int)) (wL wSlt x.ins)) (wL wSlt x.outs)) (by omega) (by omega) hd3) ?_|refine Zc (J0B x.mems (subI (subI (subI (left-(x.name.size:Int)) (wL wSlt x.ins)) (wL wSlt x.outs)) (wL wStr x.locs)) (by omega) (by omega) hd4) ?_|refine Zc (J0B x.insts (subI (subI (subI (subI (left-(x.name.size:Int)) (wL wSlt x.ins)) (wL wSlt x.outs)) (wL wStr x.locs)) (wL wNum0 x.mems)) (by omega) (by omega) hd5) ?_|refine Zc (J5w x.body (subI (subI (subI (subI (subI (left-(x.name.size:Int)) (wL wSlt x.ins)) (wL wSlt x.outs)) (wL wStr x.locs)) (wL wNum0 x.mems)) (wL wNum0 x.insts)) (by omega) (by omega) hd6) ?_|refine Zg ?_|refine Zo ?_|refine J6 ?_|refine Zq ?_|refine J8 ?_|refine Jb ?_|refine J3 ?_|refine Zt ?_
 exact JA (by rw[J2Y (left:=left) (n:=wCls x) (by simp only[wCls];omega)];(simp only[wCls]<;>omega))
theorem J3V (l:List (Cls)) (left:Int) (h0:0≤left) (h1:left≤1048576) (hd:dL (dCls) l):PFun X 24 [.d (.im (l.map eCls)),vi left] (vi (subI left (wL (wCls) l))):=by
 obtain⟨hd1,hd2⟩:=hd
 simp only[mx]at hd1
 refine Jn Tryz.func24 rfl (by decide) Tryz.ntmps24 Tryz.results24 (by simp) rfl rfl ?_
 by_cases hlt:left-(l.length:Int)<0
 ·have e1:decide (left-(l.length:Int)<0)=true:=J0 hlt
  repeat' first|refine Z1 ?_|refine Z2 ?_|refine Z5 ?_|refine Zd ?_|refine Zg ?_|refine Zo ?_|refine J6 ?_|refine Zp ?_|refine Jb ?_|refine J7 ?_|refine Zt ?_
  exact JA (by rw[Jz (by simp only[wL];omega)])
 ·have e1:decide (left-(l.length:Int)<0)=false:=J1 hlt
  repeat' first|refine Z1 ?_|refine Z2 ?_|refine Z5 ?_|refine Zd ?_|refine Zg ?_|refine Zo ?_|refine J6 ?_|refine Zq ?_|refine J5 ?_|refine J8 ?_|refine J3 ?_
  refine Jq (ι:=Nat×Int) (fun x=>envL [(0,.d (.im (l.map eCls))),(1,vi x.2),(4,vi 0),(5,vi x.1)]) (fun x=>stL []) (fun x=>x.1≤l.length∧0≤x.2∧x.2≤left∧subI x.2 ((l.drop x.1).map (wCls)).sum=subI left (wL (wCls) l)) (fun x=>l.length-x.1) (0,left-l.length) (⟨Nat.zero_le _,by simp only;omega,by simp only;omega,by simp only[List.drop_zero];rw[J0c (by omega)];rfl⟩) (Jj rfl ⟨.refl _,.refl _,.refl _,.refl _,trivial⟩ trivial) (fun _=>Nat.le_refl 0) ?_
  rintro⟨k,lf⟩ ⟨i1,i2,i3,i4⟩
  simp only at i1 i2 i3 i4
  rcases hx:l[k]? with _|x
  ·have hle:=Jo hx
   have ek:decide ((k:Int)<(l.length:Int))=false:=J1 (by omega)
   rw[Jr hx]at i4
   repeat' first|refine Z1 ?_|refine Z2 ?_|refine Z5 ?_|refine Zd ?_|refine Zo ?_|refine J6 ?_|refine Zq ?_|refine Jh ?_|refine Jb ?_|refine J3 ?_|refine Ja ?_|refine Zv ?_|refine Zt ?_
   exact JA (by rw[←i4];simp[subI];omega)
  ·obtain⟨hdr,hlt2⟩:=Ji hx
   have ek:decide ((k:Int)<(l.length:Int))=true:=J0 (by omega)
   rw[hdr,List.map_cons,List.sum_cons]at i4
   have hdx:=hd2 x (List.mem_of_getElem? hx)
   by_cases hn:subI lf (wCls x)<0
   ·have en:decide (subI lf (wCls x)<0)=true:=J0 hn
    obtain⟨hn1,hn2⟩:=J01 hn
    repeat' first|refine Z1 ?_|refine Z2 ?_|refine Z5 ?_|refine Zc (J4E x lf i2 (by omega) hdx) ?_|refine Zd ?_|refine Ze ?_|refine Zo ?_|refine J6 ?_|refine Zp ?_|refine J5 ?_|refine J8 ?_|refine Jb ?_|refine J3 ?_|refine J7 ?_|refine J9 ?_|refine Zt ?_
    exact JA (by rw[←i4,Jz (by omega)])
   ·have en:decide (subI lf (wCls x)<0)=false:=J1 hn
    obtain⟨hn1,hn2⟩:=J02 hn i2
    repeat' first|refine Z1 ?_|refine Z2 ?_|refine Z5 ?_|refine Zc (J4E x lf i2 (by omega) hdx) ?_|refine Zd ?_|refine Ze ?_|refine Zf ?_|refine Zo ?_|refine J6 ?_|refine Jf ?_|refine Zp ?_|refine Zq ?_|refine J5 ?_|refine J8 ?_|refine J3 ?_|refine J4 ?_
    exact⟨(k+1,subI lf (wCls x)),⟨by simp only;omega,by simp only;omega,by simp only;omega,by simp only;rw[hn2,J0c hn1];exact i4⟩,by(try simp only);omega,Jl (Nat.zero_le _) ⟨⟨rfl,rfl⟩,⟨rfl,rfl⟩,⟨rfl,rfl⟩,⟨rfl,rfl⟩,trivial⟩ trivial⟩
theorem J36 (l:List Cls) (left:Int) (h0:0≤left) (h1:left≤1048576) (hd:dL dCls l):PFun X 7 [.agg [.d (.im (l.map eCls))],vi left] (vi (subI left (wL wCls l))):=by
 refine Jn Tryz.func7 rfl (by decide) Tryz.ntmps7 Tryz.results7 (by simp) rfl rfl ?_
 by_cases hn:subI left (wL wCls l)<0
 ·have en:decide (subI left (wL wCls l)<0)=true:=J0 hn
  obtain⟨hn1,hn2⟩:=J01 hn
  repeat' first|refine Z1 ?_|refine Z2 ?_|refine Z5 ?_|refine Zc (J3V l left h0 h1 hd) ?_|refine Zo ?_|refine J6 ?_|refine Zp ?_|refine Jb ?_|refine J7 ?_|refine Zt ?_
  exact JA hn2.symm
 ·have en:decide (subI left (wL wCls l)<0)=false:=J1 hn
  repeat' first|refine Z1 ?_|refine Z2 ?_|refine Z5 ?_|refine Zc (J3V l left h0 h1 hd) ?_|refine Zo ?_|refine J6 ?_|refine Zq ?_|refine J8 ?_|refine Jb ?_|refine J3 ?_|refine Zt ?_
  rfl
end Go.Pm
/- Part of the proof: Ms9. -/
namespace Go.Pm
attribute [local irreducible] AR Ok inBlock andThen endQ aoper
set_option maxHeartbeats 4000000
open Go.Proofs
theorem J4u {cs:List Cls} {k:Nat} {c:Cls} (h:classS cs k c=true):goodC k c:=by
 obtain⟨_,_,_,_,_,_,h1,h2,h3,_⟩:=(J1g cs k c).1 h
 refine⟨?_,fun g hg=>?_,fun s hs k3=>?_⟩
 ·unfold nestV at h3
  cases hq:growI c.body with
  |none=>rw[hq]at h3;cases h3
  |some R=>exact⟨R,rfl⟩
 ·have:=List.all_eq_true.1 h1 g hg
  simpa[insS]using this
 ·have:=List.all_eq_true.1 h2 s hs
  unfold stmS at this
  split at this;· cases this
  split at this;· cases this
  split at this;· cases this
  split at this;· cases this
  simp only[k3]at this
  simp at this
  exact this.1
theorem J6u (cs:List Cls) (hw:wL wCls cs≤1048576):PFun X 37 [.agg [.d (.im (cs.map eCls))]] (vb (mokS cs)):=by
 have hcl:cs.length≤1048576:=by simp only[wL]at hw;omega
 have hm:mokS cs=mokS cs:=rfl
 conv at hm=>rhs;unfold mokS
 refine Jn Tryz.func37 rfl (by decide) Tryz.ntmps37 Tryz.results37 (by simp) rfl rfl ?_
 by_cases hb:(cs.length:Int)<1∨200<(cs.length:Int)
 ·rw[if_pos hb]at hm
  by_cases h1:(cs.length:Int)<1
  ·have e1:decide ((cs.length:Int)<1)=true:=J0 h1
   repeat' first|refine Z1 ?_|refine Z2 ?_|refine Z5 ?_|refine Z9 ?_|refine Zd ?_|refine Zl ?_|refine Zo ?_|refine J6 ?_|refine Zp ?_|refine Jb ?_|refine J7 ?_|refine Zt ?_
   exact Jm hm.symm
  ·have e1:decide ((cs.length:Int)<1)=false:=J1 h1
   have e2:decide (200<(cs.length:Int))=true:=J0 (by omega)
   repeat' first|refine Z1 ?_|refine Z2 ?_|refine Z5 ?_|refine Z7 ?_|refine Zd ?_|refine Zh ?_|refine Zi ?_|refine Zm ?_|refine Zo ?_|refine J6 ?_|refine Zp ?_|refine Jb ?_|refine J7 ?_|refine Zt ?_
   exact Jm hm.symm
 have e1:decide ((cs.length:Int)<1)=false:=J1 (by omega)
 have e2:decide (200<(cs.length:Int))=false:=J1 (by omega)
 rw[if_neg hb]at hm
 repeat' first|refine Z1 ?_|refine Z2 ?_|refine Z5 ?_|refine Z7 ?_|refine Zd ?_|refine Zh ?_|refine Zi ?_|refine Zm ?_|refine Zo ?_|refine J6 ?_|refine Zq ?_|refine J5 ?_|refine J8 ?_|refine J3 ?_
 refine Jq (ι:=Nat) (fun x=>envL [(1,.ref 0 0),(20,vi cs.length),(21,vi x)]) (fun x=>stL [some (.var [.d (.im (cs.map eCls))])]) (fun x=>x≤cs.length∧∀j,j<x→classAt cs j=true) (fun x=>cs.length-x) 0 (⟨Nat.zero_le _,fun j hj=>by omega⟩) (Jj rfl ⟨.refl _,.refl _,.refl _,trivial⟩ ⟨⟨rfl,_,rfl,rfl,fun _ _ _=>.refl _⟩,trivial⟩) (fun _=>Nat.le_refl 1) ?_
 rintro k ⟨i1,i2⟩
 by_cases hk:k<cs.length
 ·obtain⟨c,hx⟩:∃c,cs[k]? = some c:=⟨cs[k],List.getElem?_eq_getElem hk⟩
  have ek:decide ((k:Int)<(cs.length:Int))=true:=J0 (by omega)
  have hcls:=J9A cs k c hx hw
  have hca:classAt cs k=classS cs k c:=by unfold classAt;rw[hx]
  cases hq:classS cs k c with
  |false=>
   have n1:(!classS cs k c)=true:=by rw[hq];rfl
   have hf:(List.range cs.length).all (classAt cs)=false:=by
    cases hz:(List.range cs.length).all (classAt cs)with
    |false=>rfl
    |true=>rw[←hq,(J4J cs).1 hz k c hx]
   rw[if_pos hf]at hm
   repeat' first|refine Z1 ?_|refine Z2 ?_|refine Z5 ?_|refine Zc (hcls) ?_|refine Zo ?_|refine J6 ?_|refine Zp ?_|refine J5 ?_|refine J8 ?_|refine Jb ?_|refine J3 ?_|refine J7 ?_|refine J9 ?_|refine Zt ?_
   exact Jm hm.symm
  |true=>
   have n1:(!classS cs k c)=false:=by rw[hq];rfl
   have hg:∀j,j<k+1→classAt cs j=true:=by
    intro j hj
    rcases Nat.lt_or_ge j k with h|h
    ·exact i2 j h
    ·rw[show j=k by omega,hca,hq]
   repeat' first|refine Z1 ?_|refine Z2 ?_|refine Z5 ?_|refine Zc (hcls) ?_|refine Zf ?_|refine Zo ?_|refine J6 ?_|refine Jf ?_|refine Zp ?_|refine Zq ?_|refine J5 ?_|refine J8 ?_|refine J3 ?_|refine J4 ?_
   exact⟨k+1,⟨hk,hg⟩,by(try simp only);omega,Jl (Nat.le_of_ble_eq_true rfl) ⟨⟨rfl,rfl⟩,⟨rfl,rfl⟩,⟨rfl,rfl⟩,trivial⟩ ⟨⟨rfl,rfl⟩,trivial⟩⟩
 have ek:decide ((k:Int)<(cs.length:Int))=false:=J1 (by omega)
 have hall:(List.range cs.length).all (classAt cs)=true:=by
  rw[List.all_eq_true]
  intro j hj
  exact i2 j (by have:=List.mem_range.1 hj;omega)
 rw[if_neg (by rw[hall];simp)]at hm
 have hgd:∀(k:Nat) (c:Cls),cs[k]? = some c→goodC k c:=fun k c hx=>J4u ((J4J cs).1 hall k c hx)
 have hcell:=J3D cs hw (fun k c hx=>(hgd k c hx).2.1)
 have hbnd:=J8h cs hw hgd
 have hcn:(cellsS cs).length=cs.length:=by unfold cellsS;rw[J3S];simp
 have hbn:(boundsS cs).length=cs.length:=by unfold boundsS;rw[J32];simp
 repeat' first|refine Z1 ?_|refine Z2 ?_|refine Z5 ?_|refine Zc (hcell) ?_|refine Zd ?_|refine Zo ?_|refine J6 ?_|refine Zq ?_|refine J5 ?_|refine Jh ?_|refine J3 ?_|refine Ja ?_|refine Zv ?_
 refine Jq (ι:=Nat) (fun x=>envL [(1,.ref 0 0),(30,.d (.im ((cellsS cs).map eNum))),(31,vi (cellsS cs).length),(32,vi x)]) (fun x=>stL [some (.var [.d (.im (cs.map eCls))])]) (fun x=>x≤(cellsS cs).length∧((cellsS cs).drop x).all (fun z=>decide (z≤20000))=(cellsS cs).all (fun z=>decide (z≤20000))) (fun x=>(cellsS cs).length-x) 0 (⟨Nat.zero_le _,rfl⟩) (Jj rfl ⟨.refl _,.refl _,.refl _,.refl _,trivial⟩ ⟨⟨rfl,_,rfl,rfl,fun _ _ _=>.refl _⟩,trivial⟩) (fun _=>Nat.le_refl 1) ?_
 rintro x ⟨i1,i2⟩
 rcases hx:(cellsS cs)[x]? with _|v
 rotate_left
 ·obtain⟨hd,hlt⟩:=Ji hx
  have ek:decide ((x:Int)<((cellsS cs).length:Int))=true:=J0 (by omega)
  obtain⟨a1,a2⟩:=J3A i2 hx
  by_cases t1:20000<v
  ·have u1:decide (20000<v)=true:=J0 t1
   rw[if_pos (a1 (J1 (by omega)))]at hm
   repeat' first|refine Z1 ?_|refine Z2 ?_|refine Z5 ?_|refine Ze ?_|refine Zo ?_|refine J6 ?_|refine Zp ?_|refine J5 ?_|refine J8 ?_|refine Jb ?_|refine J3 ?_|refine J7 ?_|refine J9 ?_|refine Zt ?_
   exact Jm hm.symm
  ·have u1:decide (20000<v)=false:=J1 t1
   repeat' first|refine Z1 ?_|refine Z2 ?_|refine Z5 ?_|refine Ze ?_|refine Zf ?_|refine Zo ?_|refine J6 ?_|refine Jf ?_|refine Zp ?_|refine Zq ?_|refine J5 ?_|refine J8 ?_|refine J3 ?_|refine J4 ?_
   exact⟨x+1,⟨hlt,a2 (J0 (by omega))⟩,by(try simp only);omega,Jl (Nat.le_of_ble_eq_true rfl) ⟨⟨rfl,rfl⟩,⟨rfl,rfl⟩,⟨rfl,rfl⟩,⟨rfl,rfl⟩,trivial⟩ ⟨⟨rfl,rfl⟩,trivial⟩⟩
 have hle:=Jo hx
 have ek:decide ((x:Int)<((cellsS cs).length:Int))=false:=J1 (by omega)
 rw[Jr hx]at i2
 rw[if_neg (by rw[←i2];simp)]at hm
 repeat' first|refine Z1 ?_|refine Z2 ?_|refine Z5 ?_|refine Zc (hbnd) ?_|refine Zd ?_|refine Zo ?_|refine J6 ?_|refine Zq ?_|refine J5 ?_|refine Jh ?_|refine J3 ?_|refine Ja ?_|refine Zv ?_
 refine Jq (ι:=Nat) (fun x=>envL [(1,.ref 0 0),(40,.d (.im ((boundsS cs).map eNum))),(41,vi (boundsS cs).length),(42,vi x)]) (fun x=>stL [some (.var [.d (.im (cs.map eCls))])]) (fun x=>x≤(boundsS cs).length∧((boundsS cs).drop x).all (fun z=>decide (z≤400000))=(boundsS cs).all (fun z=>decide (z≤400000))) (fun x=>(boundsS cs).length-x) 0 (⟨Nat.zero_le _,rfl⟩) (Jj rfl ⟨.refl _,.refl _,.refl _,.refl _,trivial⟩ ⟨⟨rfl,_,rfl,rfl,fun _ _ _=>.refl _⟩,trivial⟩) (fun _=>Nat.le_refl 1) ?_
 rintro x ⟨i1,i2⟩
 rcases hx:(boundsS cs)[x]? with _|v
 rotate_left
 ·obtain⟨hd,hlt⟩:=Ji hx
  have ek:decide ((x:Int)<((boundsS cs).length:Int))=true:=J0 (by omega)
  obtain⟨a1,a2⟩:=J3A i2 hx
  by_cases t1:400000<v
  ·have u1:decide (400000<v)=true:=J0 t1
   have hm:=hm.trans (a1 (J1 (by omega)))
   repeat' first|refine Z1 ?_|refine Z2 ?_|refine Z5 ?_|refine Ze ?_|refine Zo ?_|refine J6 ?_|refine Zp ?_|refine J5 ?_|refine J8 ?_|refine Jb ?_|refine J3 ?_|refine J7 ?_|refine J9 ?_|refine Zt ?_
   exact Jm hm.symm
  ·have u1:decide (400000<v)=false:=J1 t1
   repeat' first|refine Z1 ?_|refine Z2 ?_|refine Z5 ?_|refine Ze ?_|refine Zf ?_|refine Zo ?_|refine J6 ?_|refine Jf ?_|refine Zp ?_|refine Zq ?_|refine J5 ?_|refine J8 ?_|refine J3 ?_|refine J4 ?_
   exact⟨x+1,⟨hlt,a2 (J0 (by omega))⟩,by(try simp only);omega,Jl (Nat.le_of_ble_eq_true rfl) ⟨⟨rfl,rfl⟩,⟨rfl,rfl⟩,⟨rfl,rfl⟩,⟨rfl,rfl⟩,trivial⟩ ⟨⟨rfl,rfl⟩,trivial⟩⟩
 have hle:=Jo hx
 have ek:decide ((x:Int)<((boundsS cs).length:Int))=false:=J1 (by omega)
 rw[Jr hx]at i2
 have i2:true=(boundsS cs).all (fun z=>decide (z≤400000)):=i2
 rw[←i2]at hm
 repeat' first|refine Z1 ?_|refine Z2 ?_|refine Zo ?_|refine J6 ?_|refine Zq ?_|refine Jh ?_|refine Jb ?_|refine J3 ?_|refine Ja ?_|refine Zv ?_|refine Zt ?_
 exact Jm hm.symm
end Go.Pm
/- Part of the proof: Ms11. -/
namespace Go.Pm
attribute [local irreducible] AR Ok inBlock andThen endQ aoper
set_option maxHeartbeats 4000000
open Go.Proofs
theorem J0v {cs:List Cls} (h:mokS cs=true):∀(k:Nat) (c:Cls),cs[k]? = some c→goodC k c:=by
 unfold mokS at h
 split at h
 ·cases h
 ·split at h
  ·cases h
  ·rename_i h2
   intro k c hx
   exact J4u ((J4J cs).1 (by simpa using h2) k c hx)
def hasS (cs:List Cls) (n:Int):Bool:=mokS cs&&decide (0≤n)&&decide (n<(cs.length:Int))
theorem Jbi (cs:List Cls) (n:Int) (hw:wL wCls cs≤1048576):PFun X 25 [.agg [.d (.im (cs.map eCls))],vi n] (vb (hasS cs n)):=by
 refine Jn Tryz.func25 rfl (by decide) Tryz.ntmps25 Tryz.results25 (by simp) rfl rfl ?_
 cases h1:mokS cs with
 |false=>
  repeat' first|refine Z1 ?_|refine Z2 ?_|refine Z3 ?_|refine Z4 ?_|refine Z5 ?_|refine Z6 ?_|refine Z7 ?_|refine Z8 ?_|refine Z9 ?_|refine Za (fun hc=>?_) (fun hc=>?_)|refine Zb (fun hc=>?_) (fun hc=>?_)|refine Zc (J6u cs hw) ?_|refine Zd ?_|refine Ze ?_|refine Zf ?_|refine Zg ?_|refine Zh ?_|refine Zi ?_|refine Zj ?_|refine Zk ?_|refine Zl ?_|refine Zm ?_|refine Zn (fun hc=>?_) (fun hc=>?_)|refine Zo ?_|refine J6 ?_|refine Jf ?_|refine Zp ?_|refine Zq ?_|refine Zr (fun hc=>?_) (fun hc=>?_)|refine J5 ?_|refine Jh ?_|refine J8 ?_|refine Jb ?_|refine J3 ?_|refine Ja ?_|refine Zs ?_|refine Zv ?_|refine J7 ?_|refine J9 ?_|refine J4 ?_|refine Zt ?_|refine Zu ?_
  exact Jm (by rw[hasS,h1];rfl)
 |true=>
  cases h2:decide (0≤n)with
  |false=>
   repeat' first|refine Z1 ?_|refine Z2 ?_|refine Z3 ?_|refine Z4 ?_|refine Z5 ?_|refine Z6 ?_|refine Z7 ?_|refine Z8 ?_|refine Z9 ?_|refine Za (fun hc=>?_) (fun hc=>?_)|refine Zb (fun hc=>?_) (fun hc=>?_)|refine Zc (J6u cs hw) ?_|refine Zd ?_|refine Ze ?_|refine Zf ?_|refine Zg ?_|refine Zh ?_|refine Zi ?_|refine Zj ?_|refine Zk ?_|refine Zl ?_|refine Zm ?_|refine Zn (fun hc=>?_) (fun hc=>?_)|refine Zo ?_|refine J6 ?_|refine Jf ?_|refine Zp ?_|refine Zq ?_|refine Zr (fun hc=>?_) (fun hc=>?_)|refine J5 ?_|refine Jh ?_|refine J8 ?_|refine Jb ?_|refine J3 ?_|refine Ja ?_|refine Zs ?_|refine Zv ?_|refine J7 ?_|refine J9 ?_|refine J4 ?_|refine Zt ?_|refine Zu ?_
   exact Jm (by rw[hasS,h1,h2];rfl)
  |true=>
   repeat' first|refine Z1 ?_|refine Z2 ?_|refine Z3 ?_|refine Z4 ?_|refine Z5 ?_|refine Z6 ?_|refine Z7 ?_|refine Z8 ?_|refine Z9 ?_|refine Za (fun hc=>?_) (fun hc=>?_)|refine Zb (fun hc=>?_) (fun hc=>?_)|refine Zc (J6u cs hw) ?_|refine Zd ?_|refine Ze ?_|refine Zf ?_|refine Zg ?_|refine Zh ?_|refine Zi ?_|refine Zj ?_|refine Zk ?_|refine Zl ?_|refine Zm ?_|refine Zn (fun hc=>?_) (fun hc=>?_)|refine Zo ?_|refine J6 ?_|refine Jf ?_|refine Zp ?_|refine Zq ?_|refine Zr (fun hc=>?_) (fun hc=>?_)|refine J5 ?_|refine Jh ?_|refine J8 ?_|refine Jb ?_|refine J3 ?_|refine Ja ?_|refine Zs ?_|refine Zv ?_|refine J7 ?_|refine J9 ?_|refine J4 ?_|refine Zt ?_|refine Zu ?_
   exact Jm (by rw[hasS,h1,h2];rfl)
theorem Jc0 {cs:List Cls} {n:Int} (h:n<0∨(cs.length:Int)≤n):hasS cs n=false:=by
 unfold hasS
 rcases h with h|h
 ·rw[J1 (show ¬0≤n by omega)];simp
 ·rw[J1 (show ¬n<(cs.length:Int) by omega)];simp
theorem Jcx {cs:List Cls} {n:Int} (hm:mokS cs=true) (h0:0≤n) (h1:n<(cs.length:Int)):hasS cs n=true:=by
 unfold hasS
 rw[hm,J0 h0,J0 h1];rfl
theorem J5H {cs:List Cls} {n:Int} (h:hasS cs n=true):mokS cs=true∧∃k:Nat,n=(k:Int)∧k<cs.length:=by
 simp only[hasS,Bool.and_eq_true,decide_eq_true_eq]at h
 exact⟨h.1.1,n.toNat,by omega,by omega⟩
end Go.Pm
/- Part of the proof: Sf1. -/
namespace Go.Pm
open Go.Proofs
def okM (n:Nat) (x:Itm):Prop:=(1≤x.op∧x.op≤20∨x.op=25)∧(x.op=1∨x.op=2→inR x.val)∧(x.op=25→0≤x.val∧x.val<(n:Int))
def rho (F:List (ByteArray×Int)) (s:ByteArray):Int:=(sfind F s).getD 0
def tmI (c:List Itm):Tm:=(runT 0 [] c).headD (.mk ⟨0,0,⟨#[]⟩⟩ 0 [])
structure MS where
 F:List (ByteArray×Int)
 M:List Int
 n:Int
abbrev CallF:=Nat→List Int→List Int→List Int×List Int×Int
def codeV (σ:MS) (l:List Itm):Int:=evT (rho σ.F) σ.M (tmI l)
def putAll:List (ByteArray×Int)→List ByteArray→List Int→List (ByteArray×Int)
 |F,x::xs,v::vs=>putAll (sput F x v) xs vs
 |F,_,_=>F
def fromZ (Z:List Int) (c:Cls) (i:Nat):Nat:=c.mems.length+(((c.insts.take i).map fun g=>(nth Z g.toNat).toNat)).sum
def exCall (call:CallF) (Z:List Int) (c:Cls) (s:Sm) (σ:MS):MS:=
 let g:=(nth c.insts s.pos.toNat).toNat
 let a:=fromZ Z c s.pos.toNat
 let b:=a+(nth Z g).toNat
 let r:=call g ((σ.M.drop a).take (b-a)) (s.args.map (codeV σ))
 ⟨putAll σ.F s.outs r.2.1,σ.M.take a++(r.1++σ.M.drop b),σ.n+r.2.2⟩
def exS (call:CallF) (Z:List Int) (c:Cls) (s:Sm) (σ:MS):MS:=
 if s.kind=1 then {σ with F:=sput σ.F s.name (codeV σ s.code)}
 else if s.kind=2 then {σ with M:=σ.M.set s.pos.toNat (codeV σ s.code)}
 else if s.kind=3 then exCall call Z c s σ
 else σ
mutual
def exB (call:CallF) (Z:List Int) (c:Cls):Br→MS→MS
 |.nd s ys ns,σ=>if s.kind=4 then(if rho σ.F s.name≠0 then exL call Z c ys {σ with n:=σ.n+1}else exL call Z c ns {σ with n:=σ.n+1})else exS call Z c s {σ with n:=σ.n+1}
def exL (call:CallF) (Z:List Int) (c:Cls):List Br→MS→MS
 |[],σ=>σ
 |b::l,σ=>exL call Z c l (exB call Z c b σ)
end
def forI (c:Cls):List Br:=(growI c.body).getD []
def stepF (cs:List Cls) (Z:List Int):Nat→CallF
 |0=>fun _ S _=>(S,[],0)
 |f+1=>fun k S I=>
  match cs[k]? with
  |none=>(S,[],0)
  |some c=>
   let σ:=exL (stepF cs Z f) Z c (forI c) ⟨putAll [] (c.ins.map sNm) I,S,0⟩
   (σ.M,c.outs.map (fun o=>rho σ.F o.name),σ.n)
def GoodM (c:Cls) (l:List Itm):Prop:=l.length≤6000∧postI 0 l=true∧runT 0 [] l=[tmI l]∧wfT (tmI l)∧flat (tmI l)=l∧∀x∈l,okM c.mems.length x∧(x.op=3→x.name∈nmsC c)
theorem J2A {c:Cls} {F:Vm} (hF:mapOf c F) {l:List Itm} (h:mcodeS c l=true):GoodM c l:=by
 rw[←J2K hF]at h
 unfold codeI at h
 split at h
 ·cases h
 rename_i hb
 rw[Bool.and_eq_true]at h
 obtain⟨h1,h2⟩:=h
 have hi:∀x∈l,okM c.mems.length x∧(x.op=3→x.name∈nmsC c):=fun x hx=>by
  have:=List.all_eq_true.1 h1 x hx
  unfold ciI at this
  split at this
  ·rename_i h25
   split at this
   ·cases this
   rename_i q
   refine⟨⟨.inr h25,fun e=>by omega,fun _=>?_⟩,fun e=>by omega⟩
   simp only[not_or]at q
   omega
  ·rename_i h25
   split at this
   ·cases this
   rename_i q
   simp only[not_or]at q
   have hit:itemI x=true:=by cases hq:itemI x<;>simp_all
   refine⟨⟨.inl ⟨by omega,by omega⟩,fun e=>?_,fun e=>absurd e h25⟩,fun e=>?_⟩
   ·unfold itemI at hit
    unfold inR
    split at hit
    ·cases hit
    rcases e with e|e
    ·rw[if_pos e]at hit
     split at hit
     ·cases hit
     ·rename_i q2;omega
    ·rw[if_neg (by omega)]at hit
     split at hit
     ·split at hit
      ·cases hit
      ·rename_i q2;omega
     ·rename_i q3;omega
   ·rw[if_pos e]at this
    have hk:=J4U hF x.name
    rw[this]at hk
    exact(J2J _ _).1 hk.symm
 obtain⟨t,t1,t2,t3⟩:=J7D l 0 [] (fun x hx=>by have:=(hi x hx).1.1;omega) trivial h2
 have ht:tmI l=t:=by unfold tmI;rw[t1];rfl
 refine⟨by omega,h2,by rw[ht];exact t1,by rw[ht];exact t2,by rw[ht];exact t3,hi⟩
end Go.Pm
/- Part of the proof: Sh2. -/
namespace Go.Pm
attribute [local irreducible] AR Ok inBlock andThen endQ aoper
set_option maxHeartbeats 4000000
open Go.Proofs
def eNms (c:Cls):List D:=[.im ((nmsC c).map eStr)]
def planD (cs:List Cls) (oth fin:List (List Int)) (Z:List Int):D:=.ip [.im (cs.map eNms),.im (oth.map fun l=>[D.im (l.map eNum)]),.im (fin.map fun l=>[D.im (l.map eNum)]),.im (Z.map eNum)] 0
def runV (cs:List Cls) (pl:D) (k:Nat) (c:Cls) (v hv nv s hs ns:Nat) (n:Int):AO:=
 .var ([.d (.im (cs.map eCls)),.d pl,vi k]++(eCls c).map .d++[.sl v hv 0 nv,.sl s hs 0 ns,vi n])
theorem J8V {α:Type} {l:List α} (hn:l.Nodup) {i j:Nat} {x:α} (h1:l[i]? = some x) (h2:l[j]? = some x):i=j:=by
 obtain⟨a1,a2⟩:=List.getElem?_eq_some_iff.1 h1
 obtain⟨b1,b2⟩:=List.getElem?_eq_some_iff.1 h2
 have hp:=List.pairwise_iff_getElem.1 hn
 rcases Nat.lt_trichotomy i j with h|h|h
 ·exact absurd (a2.trans b2.symm) (hp i j a1 b1 h)
 ·exact h
 ·exact absurd (b2.trans a2.symm) (hp j i b1 a1 h)
theorem J3q {x:ByteArray}:∀{l:List ByteArray} {j:Nat},x∈l→∃p:Nat,placeS x j l=((j+p:Nat):Int)∧l[p]? = some x
 |y::l,j,h=>by
  simp only[placeS]
  by_cases e:y=x
  ·rw[if_pos e];exact⟨0,by omega,by simp[e]⟩
  ·rw[if_neg e]
   obtain⟨p,h1,h2⟩:=J3q (l:=l) (j:=j+1) (by rcases List.mem_cons.1 h with h|h;exact absurd h.symm e;exact h)
   exact⟨p+1,by rw[h1];omega,by simpa using h2⟩
def vals (c:Cls) (F:List (ByteArray×Int)):List Int:=(nmsC c).map (rho F)
theorem J6r {c:Cls} {F:List (ByteArray×Int)} {p:Nat} {x:ByteArray} (h:(nmsC c)[p]? = some x):(vals c F)[p]? = some (rho F x):=by unfold vals;rw[List.getElem?_map,h];rfl
theorem J5a (c:Cls) (F:List (ByteArray×Int)):(vals c F).length=(nmsC c).length:=by unfold vals;rw[List.length_map]
theorem J9Y {c:Cls} (hn:(nmsC c).Nodup) {F:List (ByteArray×Int)} {p:Nat} {x:ByteArray} (h:(nmsC c)[p]? = some x) (v:Int):(vals c F).set p v=vals c (sput F x v):=by
 have hp:=(List.getElem?_eq_some_iff.1 h).1
 refine List.ext_getElem? fun j=>?_
 rw[List.getElem?_set]
 by_cases e:p=j
 ·subst e
  rw[if_pos rfl,if_pos (by rw[J5a];exact hp),J6r h]
  unfold rho
  rw[JB,if_pos rfl];rfl
 ·rw[if_neg e]
  unfold vals
  rw[List.getElem?_map,List.getElem?_map]
  cases hj:(nmsC c)[j]? with
  |none=>rfl
  |some y=>
   have hne:y≠x:=fun e2=>by
    subst e2
    exact e (J8V hn h hj)
   simp only[Option.map_some]
   unfold rho
   rw[JB,if_neg hne]
theorem J6M {cs:List Cls} {oth fin:List (List Int)} {Z:List Int} {k:Nat} {c:Cls} (hk:cs[k]? = some c) (hnl:(nmsC c).length≤1048576) {F:List (ByteArray×Int)} {i v hv s hs ns:Nat} {n:Int} {x:ByteArray} (hx:x∈nmsC c) {σ:St}
  (h0:σ.obj i=some (runV cs (planD cs oth fin Z) k c v hv (nmsC c).length s hs ns n)) (h1:σ.obj v=some (.row hv 3 1 (im2 eNum (vals c F)))):
  AFun X 157 [.ref i 0,vs x] σ fun E σ'=>E=.ret (vi (rho F x))∧σ'=σ:=by
 obtain⟨p,hp,hpx⟩:=J3q (j:=0) hx
 rw[Nat.zero_add]at hp
 have hval:=J6r (F:=F) hpx
 have hlt:p<(nmsC c).length:=(List.getElem?_eq_some_iff.1 hpx).1
 have hpl:=J0E (nmsC c) x hnl
 rw[hp]at hpl
 have hkn:(cs.map eNms)[k]? = some (eNms c):=by rw[List.getElem?_map,hk];rfl
 refine Jw Tryz.func157 rfl (by decide) Tryz.ntmps157 Tryz.results157 (by simp) ?_
 repeat' first|refine Z1 ?_|refine Z2 ?_|refine Z3 ?_|refine Z4 ?_|refine Z5 ?_|refine Z6 ?_|refine Z7 ?_|refine Z8 ?_|refine Z9 ?_|refine Za (fun hc=>?_) (fun hc=>?_)|refine Zb (fun hc=>?_) (fun hc=>?_)|refine Zd ?_|refine Ze ?_|refine Zf ?_|refine Zg ?_|refine Zh ?_|refine Zi ?_|refine Zj ?_|refine Zk ?_|refine Zl ?_|refine Zm ?_|refine Zn (fun hc=>?_) (fun hc=>?_)|refine Zo ?_|refine J6 ?_|refine Jf ?_|refine Zp ?_|refine Zq ?_|refine Zr (fun hc=>?_) (fun hc=>?_)|refine J5 ?_|refine Jh ?_|refine J8 ?_|refine Jb ?_|refine J3 ?_|refine Ja ?_|refine Zs ?_|refine Zv ?_|refine J7 ?_|refine J9 ?_|refine J4 ?_|refine Zt ?_|refine Zu ?_
 refine Jv (fun _=>True) [] Jp (by decide +kernel) ?_
 repeat' first|refine Wl h0 trivial ?_|refine Wa ?_|refine Wn ?_
 refine Wq (fun τ _=>Yej (e:=eNms) (l:=cs) k rfl hk ⟨rfl,rfl⟩) ?_
 repeat' first|refine Wa ?_|refine Wn ?_
 refine Wq (fun τ _=>Zc hpl ⟨rfl,rfl⟩) ?_
 refine Wq (fun τ h=>Yi1 p ((h v trivial).trans h1) rfl hlt ⟨rfl,rfl⟩) ?_
 refine Wq (fun τ h=>Ye1 ((h v trivial).trans h1) (J0b hval) ⟨rfl,rfl⟩) ?_
 repeat' first|refine Wa ?_|refine Wn ?_
 refine Wx ?_
 repeat' first|refine Z1 ?_|refine Z2 ?_|refine Z3 ?_|refine Z4 ?_|refine Z5 ?_|refine Z6 ?_|refine Z7 ?_|refine Z8 ?_|refine Z9 ?_|refine Za (fun hc=>?_) (fun hc=>?_)|refine Zb (fun hc=>?_) (fun hc=>?_)|refine Zd ?_|refine Ze ?_|refine Zf ?_|refine Zg ?_|refine Zh ?_|refine Zi ?_|refine Zj ?_|refine Zk ?_|refine Zl ?_|refine Zm ?_|refine Zn (fun hc=>?_) (fun hc=>?_)|refine Zo ?_|refine J6 ?_|refine Jf ?_|refine Zp ?_|refine Zq ?_|refine Zr (fun hc=>?_) (fun hc=>?_)|refine J5 ?_|refine Jh ?_|refine J8 ?_|refine Jb ?_|refine J3 ?_|refine Ja ?_|refine Zs ?_|refine Zv ?_|refine J7 ?_|refine J9 ?_|refine J4 ?_|refine Zt ?_|refine Zu ?_
 exact⟨rfl,rfl⟩
theorem J8H {cs:List Cls} {oth fin:List (List Int)} {Z:List Int} {k:Nat} {c:Cls} (hk:cs[k]? = some c) (hnl:(nmsC c).length≤1048576) (hnd:(nmsC c).Nodup) {F:List (ByteArray×Int)} {i v hv s hs ns:Nat} {n:Int} {x:ByteArray} (hx:x∈nmsC c) (y:Int) {σ:St}
  (h0:σ.obj i=some (runV cs (planD cs oth fin Z) k c v hv (nmsC c).length s hs ns n)) (h1:σ.obj v=some (.row hv 3 1 (im2 eNum (vals c F)))):
  AFun X 155 [.ref i 0,vs x,vi y] σ fun E σ'=>E=.ret (.tup [])∧σ'=σ.set v (.row hv 3 1 (im2 eNum (vals c (sput F x y)))):=by
 obtain⟨p,hp,hpx⟩:=J3q (j:=0) hx
 rw[Nat.zero_add]at hp
 have hval:=J6r (F:=F) hpx
 have hlt:p<(nmsC c).length:=(List.getElem?_eq_some_iff.1 hpx).1
 have hpl:=J0E (nmsC c) x hnl
 rw[hp]at hpl
 have hkn:(cs.map eNms)[k]? = some (eNms c):=by rw[List.getElem?_map,hk];rfl
 rw[←J9Y hnd hpx]
 refine Jw Tryz.func155 rfl (by decide) Tryz.ntmps155 Tryz.results155 (by simp) ?_
 repeat' first|refine Z1 ?_|refine Z2 ?_|refine Z3 ?_|refine Z4 ?_|refine Z5 ?_|refine Z6 ?_|refine Z7 ?_|refine Z8 ?_|refine Z9 ?_|refine Za (fun hc=>?_) (fun hc=>?_)|refine Zb (fun hc=>?_) (fun hc=>?_)|refine Zd ?_|refine Ze ?_|refine Zf ?_|refine Zg ?_|refine Zh ?_|refine Zi ?_|refine Zj ?_|refine Zk ?_|refine Zl ?_|refine Zm ?_|refine Zn (fun hc=>?_) (fun hc=>?_)|refine Zo ?_|refine J6 ?_|refine Jf ?_|refine Zp ?_|refine Zq ?_|refine Zr (fun hc=>?_) (fun hc=>?_)|refine J5 ?_|refine Jh ?_|refine J8 ?_|refine Jb ?_|refine J3 ?_|refine Ja ?_|refine Zs ?_|refine Zv ?_|refine J7 ?_|refine J9 ?_|refine J4 ?_|refine Zt ?_|refine Zu ?_
 refine Jv (fun _=>True) [21] Jp (by decide +kernel) ?_
 repeat' first|refine Wl h0 trivial ?_|refine Wa ?_|refine Wn ?_
 refine Wq (fun τ _=>Yej (e:=eNms) (l:=cs) k rfl hk ⟨rfl,rfl⟩) ?_
 repeat' first|refine Wa ?_|refine Wn ?_
 refine Wq (fun τ _=>Zc hpl ⟨rfl,rfl⟩) ?_
 repeat' first|refine Wa ?_|refine Wn ?_
 refine Wq (fun τ h=>Yi1 p ((h v trivial).trans h1) rfl hlt ⟨rfl,rfl⟩) ?_
 refine We (J4t (e:=eNum) (l:=vals c F) (y:=y) (by rw[J5a];exact hlt) (fun _=>rfl) rfl rfl rfl rfl h1 ⟨rfl,rfl⟩) (.inl rfl) ?_
 refine Wy ?_
 repeat' first|refine Z1 ?_|refine Z2 ?_|refine Z3 ?_|refine Z4 ?_|refine Z5 ?_|refine Z6 ?_|refine Z7 ?_|refine Z8 ?_|refine Z9 ?_|refine Za (fun hc=>?_) (fun hc=>?_)|refine Zb (fun hc=>?_) (fun hc=>?_)|refine Zd ?_|refine Ze ?_|refine Zf ?_|refine Zg ?_|refine Zh ?_|refine Zi ?_|refine Zj ?_|refine Zk ?_|refine Zl ?_|refine Zm ?_|refine Zn (fun hc=>?_) (fun hc=>?_)|refine Zo ?_|refine J6 ?_|refine Jf ?_|refine Zp ?_|refine Zq ?_|refine Zr (fun hc=>?_) (fun hc=>?_)|refine J5 ?_|refine Jh ?_|refine J8 ?_|refine Jb ?_|refine J3 ?_|refine Ja ?_|refine Zs ?_|refine Zv ?_|refine J7 ?_|refine J9 ?_|refine J4 ?_|refine Zt ?_|refine Zu ?_
 exact nrm0 ⟨rfl,rfl⟩
end Go.Pm
