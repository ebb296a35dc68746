/- Part of the proof: Szm. -/
import Derived.Test.YtdjanhhljinokaaGreatDoorT14
import Derived.Test.YtdjanhhljinokaaGreatDoorT10
import Derived.Test.YtdjanhhljinokaaGreatDoorT24
import Derived.Test.YtdjanhhljinokaaGreatDoorT26
import Derived.Test.YtdjanhhljinokaaGreatDoorT21
set_option linter.unusedVariables false
set_option linter.unusedSimpArgs false
namespace Go.Pm
attribute [local irreducible] AR Ok inBlock andThen endQ aoper
set_option maxHeartbeats 1000000
open Go.Proofs
theorem J5M (x:Itm) (left:Int) (h0:0≤left) (h1:left≤1048576) (hd:dItm x):PFun X 214 [.agg ((eItm x).map .d),vi left] (vi (subI left (wItm x))):=by
 have hd0:=hd
 have hd0:x.name.size≤9223372036854775807:=hd0
 refine Jj Tryz.func214 rfl (by decide) Tryz.ntmps214 Tryz.results214 (by simp) rfl rfl ?_
 by_cases hn0:left-(x.name.size:Int)<0
 ·have en0:decide (left-(x.name.size:Int)<0)=true:=J0 hn0
  repeat' first|refine Z1 ?_|refine Z2 ?_|refine Z5 ?_|refine Zg ?_|refine Zo ?_|refine J5 ?_|refine Zp ?_|refine J9 ?_|refine J8 ?_|refine Zt ?_
  exact Jw (by rw[Jt (by simp only[wItm];omega)])
 have en0:decide (left-(x.name.size:Int)<0)=false:=J1 hn0
 repeat' first|refine Z1 ?_|refine Z2 ?_|refine Z5 ?_|refine Zg ?_|refine Zo ?_|refine J5 ?_|refine Zq ?_|refine J7 ?_|refine J9 ?_|refine J3 ?_|refine Zt ?_
 exact Jw (by rw[J2s (left:=left) (n:=wItm x) (by simp only[wItm];omega)];(simp only[wItm]<;>omega))
theorem J1c (l:List (Itm)) (left:Int) (h0:0≤left) (h1:left≤1048576) (hd:dL (dItm) l):PFun X 186 [.d (.im (l.map eItm)),vi left] (vi (subI left (wL (wItm) l))):=by
 obtain⟨hd1,hd2⟩:=hd
 simp only[mx]at hd1
 refine Jj Tryz.func186 rfl (by decide) Tryz.ntmps186 Tryz.results186 (by simp) rfl rfl ?_
 by_cases hlt:left-(l.length:Int)<0
 ·have e1:decide (left-(l.length:Int)<0)=true:=J0 hlt
  repeat' first|refine Z1 ?_|refine Z2 ?_|refine Z5 ?_|refine Zd ?_|refine Zg ?_|refine Zo ?_|refine J5 ?_|refine Zp ?_|refine J9 ?_|refine J8 ?_|refine Zt ?_
  exact Jw (by rw[Jt (by simp only[wL];omega)])
 ·have e1:decide (left-(l.length:Int)<0)=false:=J1 hlt
  repeat' first|refine Z1 ?_|refine Z2 ?_|refine Z5 ?_|refine Zd ?_|refine Zg ?_|refine Zo ?_|refine J5 ?_|refine Zq ?_|refine J4 ?_|refine J7 ?_|refine J3 ?_
  refine Jo (ι:=Nat×Int) (fun x=>envL [(0,.d (.im (l.map eItm))),(1,vi x.2),(4,vi 0),(5,vi x.1)]) (fun x=>stL []) (fun x=>x.1≤l.length∧0≤x.2∧x.2≤left∧subI x.2 ((l.drop x.1).map (wItm)).sum=subI left (wL (wItm) l)) (fun x=>l.length-x.1) (0,left-l.length) (⟨Nat.zero_le _,by simp only;omega,by simp only;omega,by simp only[List.drop_zero];rw[J0e (by omega)];rfl⟩) (Jg rfl ⟨.refl _,.refl _,.refl _,.refl _,trivial⟩ trivial) (fun _=>Nat.le_refl 0) ?_
  rintro⟨k,lf⟩ ⟨i1,i2,i3,i4⟩
  simp only at i1 i2 i3 i4
  rcases hx:l[k]? with _|x
  ·have hle:=Jk hx
   have ek:decide ((k:Int)<(l.length:Int))=false:=J1 (by omega)
   rw[Jm hx]at i4
   repeat' first|refine Z1 ?_|refine Z2 ?_|refine Z5 ?_|refine Zd ?_|refine Zo ?_|refine J5 ?_|refine Zq ?_|refine Jf ?_|refine J9 ?_|refine J3 ?_|refine Jb ?_|refine Zv ?_|refine Zt ?_
   exact Jw (by rw[←i4];simp[subI];omega)
  ·obtain⟨hdr,hlt2⟩:=Jc hx
   have ek:decide ((k:Int)<(l.length:Int))=true:=J0 (by omega)
   rw[hdr,List.map_cons,List.sum_cons]at i4
   have hdx:=hd2 x (List.mem_of_getElem? hx)
   by_cases hn:subI lf (wItm x)<0
   ·have en:decide (subI lf (wItm x)<0)=true:=J0 hn
    obtain⟨hn1,hn2⟩:=JZ hn
    repeat' first|refine Z1 ?_|refine Z2 ?_|refine Z5 ?_|refine Zc (J5M x lf i2 (by omega) hdx) ?_|refine Zd ?_|refine Ze ?_|refine Zo ?_|refine J5 ?_|refine Zp ?_|refine J4 ?_|refine J7 ?_|refine J9 ?_|refine J3 ?_|refine J8 ?_|refine Ja ?_|refine Zt ?_
    exact Jw (by rw[←i4,Jt (by omega)])
   ·have en:decide (subI lf (wItm x)<0)=false:=J1 hn
    obtain⟨hn1,hn2⟩:=J02 hn i2
    repeat' first|refine Z1 ?_|refine Z2 ?_|refine Z5 ?_|refine Zc (J5M x lf i2 (by omega) hdx) ?_|refine Zd ?_|refine Ze ?_|refine Zf ?_|refine Zo ?_|refine J5 ?_|refine Jd ?_|refine Zp ?_|refine Zq ?_|refine J4 ?_|refine J7 ?_|refine J3 ?_|refine J6 ?_
    exact⟨(k+1,subI lf (wItm x)),⟨by simp only;omega,by simp only;omega,by simp only;omega,by simp only;rw[hn2,J0e hn1];exact i4⟩,by(try simp only);omega,Jh (Nat.zero_le _) ⟨⟨rfl,rfl⟩,⟨rfl,rfl⟩,⟨rfl,rfl⟩,⟨rfl,rfl⟩,trivial⟩ trivial⟩
theorem J3m (l:List (List Itm)) (left:Int) (h0:0≤left) (h1:left≤1048576) (hd:dL (dL dItm) l):PFun X 187 [.d (.im (l.map eItms)),vi left] (vi (subI left (wL (wL wItm) l))):=by
 obtain⟨hd1,hd2⟩:=hd
 simp only[mx]at hd1
 refine Jj Tryz.func187 rfl (by decide) Tryz.ntmps187 Tryz.results187 (by simp) rfl rfl ?_
 by_cases hlt:left-(l.length:Int)<0
 ·have e1:decide (left-(l.length:Int)<0)=true:=J0 hlt
  repeat' first|refine Z1 ?_|refine Z2 ?_|refine Z5 ?_|refine Zd ?_|refine Zg ?_|refine Zo ?_|refine J5 ?_|refine Zp ?_|refine J9 ?_|refine J8 ?_|refine Zt ?_
  exact Jw (by rw[Jt (by simp only[wL];omega)])
 ·have e1:decide (left-(l.length:Int)<0)=false:=J1 hlt
  repeat' first|refine Z1 ?_|refine Z2 ?_|refine Z5 ?_|refine Zd ?_|refine Zg ?_|refine Zo ?_|refine J5 ?_|refine Zq ?_|refine J4 ?_|refine J7 ?_|refine J3 ?_
  refine Jo (ι:=Nat×Int) (fun x=>envL [(0,.d (.im (l.map eItms))),(1,vi x.2),(4,vi 0),(5,vi x.1)]) (fun x=>stL []) (fun x=>x.1≤l.length∧0≤x.2∧x.2≤left∧subI x.2 ((l.drop x.1).map (wL wItm)).sum=subI left (wL (wL wItm) l)) (fun x=>l.length-x.1) (0,left-l.length) (⟨Nat.zero_le _,by simp only;omega,by simp only;omega,by simp only[List.drop_zero];rw[J0e (by omega)];rfl⟩) (Jg rfl ⟨.refl _,.refl _,.refl _,.refl _,trivial⟩ trivial) (fun _=>Nat.le_refl 0) ?_
  rintro⟨k,lf⟩ ⟨i1,i2,i3,i4⟩
  simp only at i1 i2 i3 i4
  rcases hx:l[k]? with _|x
  ·have hle:=Jk hx
   have ek:decide ((k:Int)<(l.length:Int))=false:=J1 (by omega)
   rw[Jm hx]at i4
   repeat' first|refine Z1 ?_|refine Z2 ?_|refine Z5 ?_|refine Zd ?_|refine Zo ?_|refine J5 ?_|refine Zq ?_|refine Jf ?_|refine J9 ?_|refine J3 ?_|refine Jb ?_|refine Zv ?_|refine Zt ?_
   exact Jw (by rw[←i4];simp[subI];omega)
  ·obtain⟨hdr,hlt2⟩:=Jc hx
   have ek:decide ((k:Int)<(l.length:Int))=true:=J0 (by omega)
   rw[hdr,List.map_cons,List.sum_cons]at i4
   have hdx:=hd2 x (List.mem_of_getElem? hx)
   by_cases hn:subI lf (wL wItm x)<0
   ·have en:decide (subI lf (wL wItm x)<0)=true:=J0 hn
    obtain⟨hn1,hn2⟩:=JZ hn
    repeat' first|refine Z1 ?_|refine Z2 ?_|refine Z5 ?_|refine Zc (J1c x lf i2 (by omega) hdx) ?_|refine Zd ?_|refine Ze ?_|refine Zo ?_|refine J5 ?_|refine Zp ?_|refine J4 ?_|refine J7 ?_|refine J9 ?_|refine J3 ?_|refine J8 ?_|refine Ja ?_|refine Zt ?_
    exact Jw (by rw[←i4,Jt (by omega)])
   ·have en:decide (subI lf (wL wItm x)<0)=false:=J1 hn
    obtain⟨hn1,hn2⟩:=J02 hn i2
    repeat' first|refine Z1 ?_|refine Z2 ?_|refine Z5 ?_|refine Zc (J1c x lf i2 (by omega) hdx) ?_|refine Zd ?_|refine Ze ?_|refine Zf ?_|refine Zo ?_|refine J5 ?_|refine Jd ?_|refine Zp ?_|refine Zq ?_|refine J4 ?_|refine J7 ?_|refine J3 ?_|refine J6 ?_
    exact⟨(k+1,subI lf (wL wItm x)),⟨by simp only;omega,by simp only;omega,by simp only;omega,by simp only;rw[hn2,J0e hn1];exact i4⟩,by(try simp only);omega,Jh (Nat.zero_le _) ⟨⟨rfl,rfl⟩,⟨rfl,rfl⟩,⟨rfl,rfl⟩,⟨rfl,rfl⟩,trivial⟩ trivial⟩
theorem JV (l:List (ByteArray)) (left:Int) (h0:0≤left) (h1:left≤1048576) (hd:dL (dStr) l):PFun X 106 [.d (.im (l.map eStr)),vi left] (vi (subI left (wL (wStr) l))):=by
 obtain⟨hd1,hd2⟩:=hd
 simp only[mx]at hd1
 refine Jj Tryz.func106 rfl (by decide) Tryz.ntmps106 Tryz.results106 (by simp) rfl rfl ?_
 by_cases hlt:left-(l.length:Int)<0
 ·have e1:decide (left-(l.length:Int)<0)=true:=J0 hlt
  repeat' first|refine Z1 ?_|refine Z2 ?_|refine Z5 ?_|refine Zd ?_|refine Zg ?_|refine Zo ?_|refine J5 ?_|refine Zp ?_|refine J9 ?_|refine J8 ?_|refine Zt ?_
  exact Jw (by rw[Jt (by simp only[wL];omega)])
 ·have e1:decide (left-(l.length:Int)<0)=false:=J1 hlt
  repeat' first|refine Z1 ?_|refine Z2 ?_|refine Z5 ?_|refine Zd ?_|refine Zg ?_|refine Zo ?_|refine J5 ?_|refine Zq ?_|refine J4 ?_|refine J7 ?_|refine J3 ?_
  refine Jo (ι:=Nat×Int) (fun x=>envL [(0,.d (.im (l.map eStr))),(1,vi x.2),(4,vi 0),(5,vi x.1)]) (fun x=>stL []) (fun x=>x.1≤l.length∧0≤x.2∧x.2≤left∧subI x.2 ((l.drop x.1).map (wStr)).sum=subI left (wL (wStr) l)) (fun x=>l.length-x.1) (0,left-l.length) (⟨Nat.zero_le _,by simp only;omega,by simp only;omega,by simp only[List.drop_zero];rw[J0e (by omega)];rfl⟩) (Jg rfl ⟨.refl _,.refl _,.refl _,.refl _,trivial⟩ trivial) (fun _=>Nat.le_refl 0) ?_
  rintro⟨k,lf⟩ ⟨i1,i2,i3,i4⟩
  simp only at i1 i2 i3 i4
  rcases hx:l[k]? with _|x
  ·have hle:=Jk hx
   have ek:decide ((k:Int)<(l.length:Int))=false:=J1 (by omega)
   rw[Jm hx]at i4
   repeat' first|refine Z1 ?_|refine Z2 ?_|refine Z5 ?_|refine Zd ?_|refine Zo ?_|refine J5 ?_|refine Zq ?_|refine Jf ?_|refine J9 ?_|refine J3 ?_|refine Jb ?_|refine Zv ?_|refine Zt ?_
   exact Jw (by rw[←i4];simp[subI];omega)
  ·obtain⟨hdr,hlt2⟩:=Jc hx
   have ek:decide ((k:Int)<(l.length:Int))=true:=J0 (by omega)
   rw[hdr,List.map_cons,List.sum_cons]at i4
   have hdx:=hd2 x (List.mem_of_getElem? hx)
   simp only[dStr,mx]at hdx
   simp only[wStr]at i4
   by_cases hn:lf-(x.size:Int)<0
   ·have en:decide (lf-(x.size:Int)<0)=true:=J0 hn
    have hn1:lf<(x.size:Int):=by omega
    repeat' first|refine Z1 ?_|refine Z2 ?_|refine Z5 ?_|refine Zd ?_|refine Ze ?_|refine Zg ?_|refine Zo ?_|refine J5 ?_|refine Zp ?_|refine J4 ?_|refine J7 ?_|refine J9 ?_|refine J3 ?_|refine J8 ?_|refine Ja ?_|refine Zt ?_
    exact Jw (by rw[←i4,Jt (by omega)])
   ·have en:decide (lf-(x.size:Int)<0)=false:=J1 hn
    have hn1:(x.size:Int)≤lf:=by omega
    repeat' first|refine Z1 ?_|refine Z2 ?_|refine Z5 ?_|refine Zd ?_|refine Ze ?_|refine Zf ?_|refine Zg ?_|refine Zo ?_|refine J5 ?_|refine Jd ?_|refine Zp ?_|refine Zq ?_|refine J4 ?_|refine J7 ?_|refine J3 ?_|refine J6 ?_
    exact⟨(k+1,lf-(x.size:Int)),⟨by simp only;omega,by simp only;omega,by simp only;omega,by simp only;rw[J0e hn1];exact i4⟩,by(try simp only);omega,Jh (Nat.zero_le _) ⟨⟨rfl,rfl⟩,⟨rfl,rfl⟩,⟨rfl,rfl⟩,⟨rfl,rfl⟩,trivial⟩ trivial⟩
theorem J5s (x:Slt) (left:Int) (h0:0≤left) (h1:left≤1048576) (hd:dSlt x):PFun X 153 [.agg ((eSlt x).map .d),vi left] (vi (subI left (wSlt x))):=by
 have hd0:=hd
 have hd0:x.name.size≤9223372036854775807:=hd0
 refine Jj Tryz.func153 rfl (by decide) Tryz.ntmps153 Tryz.results153 (by simp) rfl rfl ?_
 by_cases hn0:left-(x.name.size:Int)<0
 ·have en0:decide (left-(x.name.size:Int)<0)=true:=J0 hn0
  repeat' first|refine Z1 ?_|refine Z2 ?_|refine Z5 ?_|refine Zg ?_|refine Zo ?_|refine J5 ?_|refine Zp ?_|refine J9 ?_|refine J8 ?_|refine Zt ?_
  exact Jw (by rw[Jt (by simp only[wSlt];omega)])
 have en0:decide (left-(x.name.size:Int)<0)=false:=J1 hn0
 repeat' first|refine Z1 ?_|refine Z2 ?_|refine Z5 ?_|refine Zg ?_|refine Zo ?_|refine J5 ?_|refine Zq ?_|refine J7 ?_|refine J9 ?_|refine J3 ?_|refine Zt ?_
 exact Jw (by rw[J2s (left:=left) (n:=wSlt x) (by simp only[wSlt];omega)];(simp only[wSlt]<;>omega))
theorem JP (l:List (Slt)) (left:Int) (h0:0≤left) (h1:left≤1048576) (hd:dL (dSlt) l):PFun X 105 [.d (.im (l.map eSlt)),vi left] (vi (subI left (wL (wSlt) l))):=by
 obtain⟨hd1,hd2⟩:=hd
 simp only[mx]at hd1
 refine Jj Tryz.func105 rfl (by decide) Tryz.ntmps105 Tryz.results105 (by simp) rfl rfl ?_
 by_cases hlt:left-(l.length:Int)<0
 ·have e1:decide (left-(l.length:Int)<0)=true:=J0 hlt
  repeat' first|refine Z1 ?_|refine Z2 ?_|refine Z5 ?_|refine Zd ?_|refine Zg ?_|refine Zo ?_|refine J5 ?_|refine Zp ?_|refine J9 ?_|refine J8 ?_|refine Zt ?_
  exact Jw (by rw[Jt (by simp only[wL];omega)])
 ·have e1:decide (left-(l.length:Int)<0)=false:=J1 hlt
  repeat' first|refine Z1 ?_|refine Z2 ?_|refine Z5 ?_|refine Zd ?_|refine Zg ?_|refine Zo ?_|refine J5 ?_|refine Zq ?_|refine J4 ?_|refine J7 ?_|refine J3 ?_
  refine Jo (ι:=Nat×Int) (fun x=>envL [(0,.d (.im (l.map eSlt))),(1,vi x.2),(4,vi 0),(5,vi x.1)]) (fun x=>stL []) (fun x=>x.1≤l.length∧0≤x.2∧x.2≤left∧subI x.2 ((l.drop x.1).map (wSlt)).sum=subI left (wL (wSlt) l)) (fun x=>l.length-x.1) (0,left-l.length) (⟨Nat.zero_le _,by simp only;omega,by simp only;omega,by simp only[List.drop_zero];rw[J0e (by omega)];rfl⟩) (Jg rfl ⟨.refl _,.refl _,.refl _,.refl _,trivial⟩ trivial) (fun _=>Nat.le_refl 0) ?_
  rintro⟨k,lf⟩ ⟨i1,i2,i3,i4⟩
  simp only at i1 i2 i3 i4
  rcases hx:l[k]? with _|x
  ·have hle:=Jk hx
   have ek:decide ((k:Int)<(l.length:Int))=false:=J1 (by omega)
   rw[Jm hx]at i4
   repeat' first|refine Z1 ?_|refine Z2 ?_|refine Z5 ?_|refine Zd ?_|refine Zo ?_|refine J5 ?_|refine Zq ?_|refine Jf ?_|refine J9 ?_|refine J3 ?_|refine Jb ?_|refine Zv ?_|refine Zt ?_
   exact Jw (by rw[←i4];simp[subI];omega)
  ·obtain⟨hdr,hlt2⟩:=Jc hx
   have ek:decide ((k:Int)<(l.length:Int))=true:=J0 (by omega)
   rw[hdr,List.map_cons,List.sum_cons]at i4
   have hdx:=hd2 x (List.mem_of_getElem? hx)
   by_cases hn:subI lf (wSlt x)<0
   ·have en:decide (subI lf (wSlt x)<0)=true:=J0 hn
    obtain⟨hn1,hn2⟩:=JZ hn
    repeat' first|refine Z1 ?_|refine Z2 ?_|refine Z5 ?_|refine Zc (J5s x lf i2 (by omega) hdx) ?_|refine Zd ?_|refine Ze ?_|refine Zo ?_|refine J5 ?_|refine Zp ?_|refine J4 ?_|refine J7 ?_|refine J9 ?_|refine J3 ?_|refine J8 ?_|refine Ja ?_|refine Zt ?_
    exact Jw (by rw[←i4,Jt (by omega)])
   ·have en:decide (subI lf (wSlt x)<0)=false:=J1 hn
    obtain⟨hn1,hn2⟩:=J02 hn i2
    repeat' first|refine Z1 ?_|refine Z2 ?_|refine Z5 ?_|refine Zc (J5s x lf i2 (by omega) hdx) ?_|refine Zd ?_|refine Ze ?_|refine Zf ?_|refine Zo ?_|refine J5 ?_|refine Jd ?_|refine Zp ?_|refine Zq ?_|refine J4 ?_|refine J7 ?_|refine J3 ?_|refine J6 ?_
    exact⟨(k+1,subI lf (wSlt x)),⟨by simp only;omega,by simp only;omega,by simp only;omega,by simp only;rw[hn2,J0e hn1];exact i4⟩,by(try simp only);omega,Jh (Nat.zero_le _) ⟨⟨rfl,rfl⟩,⟨rfl,rfl⟩,⟨rfl,rfl⟩,⟨rfl,rfl⟩,trivial⟩ trivial⟩
theorem J0E (l:List Int) (left:Int) (h0:0≤left) (h1:left≤1048576) (hd:dNums l):PFun X 107 [.d (.im (l.map eNum)),vi left] (vi (subI left (wL wNum0 l))):=by
 have hd1:l.length≤9223372036854775807:=hd
 have hw0:=J5K l
 refine Jj Tryz.func107 rfl (by decide) Tryz.ntmps107 Tryz.results107 (by simp) rfl rfl ?_
 by_cases hlt:left-(l.length:Int)<0
 ·have e1:decide (left-(l.length:Int)<0)=true:=J0 hlt
  repeat' first|refine Z1 ?_|refine Z2 ?_|refine Z5 ?_|refine Zd ?_|refine Zg ?_|refine Zo ?_|refine J5 ?_|refine Zp ?_|refine J9 ?_|refine J8 ?_|refine Zt ?_
  exact Jw (by rw[Jt (by simp only[wL];omega)])
 ·have e1:decide (left-(l.length:Int)<0)=false:=J1 hlt
  repeat' first|refine Z1 ?_|refine Z2 ?_|refine Z5 ?_|refine Zd ?_|refine Zg ?_|refine Zo ?_|refine J5 ?_|refine Zq ?_|refine J7 ?_|refine J9 ?_|refine J3 ?_|refine Zt ?_
  exact Jw (by rw[J2s (by simp only[wL];omega)];simp only[wL];omega)
theorem J6R (x:Sm) (left:Int) (h0:0≤left) (h1:left≤1048576) (hd:dSm x):PFun X 154 [.agg ((eSm x).map .d),vi left] (vi (subI left (wSm x))):=by
 obtain⟨hd0,hd1,hd2,hd3⟩:=hd
 have hd0:x.name.size≤9223372036854775807:=hd0
 refine Jj Tryz.func154 rfl (by decide) Tryz.ntmps154 Tryz.results154 (by simp) rfl rfl ?_
 by_cases hn0:left-(x.name.size:Int)<0
 ·have en0:decide (left-(x.name.size:Int)<0)=true:=J0 hn0
  repeat' first|refine Z1 ?_|refine Z2 ?_|refine Z5 ?_|refine Zg ?_|refine Zo ?_|refine J5 ?_|refine Zp ?_|refine J9 ?_|refine J8 ?_|refine Zt ?_
  exact Jw (by rw[Jt (by simp only[wSm];omega)])
 have en0:decide (left-(x.name.size:Int)<0)=false:=J1 hn0
 by_cases hn1:subI (left-(x.name.size:Int)) (wL wStr x.outs)<0
 ·have en1:decide (subI (left-(x.name.size:Int)) (wL wStr x.outs)<0)=true:=J0 hn1
  obtain⟨ha1,hb1⟩:=JZ hn1
  repeat' first|refine Z1 ?_|refine Z2 ?_|refine Z5 ?_|refine Zc (JV x.outs (left-(x.name.size:Int)) (by omega) (by omega) hd1) ?_|refine Zg ?_|refine Zo ?_|refine J5 ?_|refine Zp ?_|refine Zq ?_|refine J7 ?_|refine J9 ?_|refine J3 ?_|refine J8 ?_|refine Zt ?_
  exact Jw (by rw[Jt (by simp only[wSm];omega)])
 have en1:decide (subI (left-(x.name.size:Int)) (wL wStr x.outs)<0)=false:=J1 hn1
 obtain⟨ha1,hb1⟩:=J02 hn1 (by omega)
 by_cases hn2:subI (subI (left-(x.name.size:Int)) (wL wStr x.outs)) (wL wItm x.code)<0
 ·have en2:decide (subI (subI (left-(x.name.size:Int)) (wL wStr x.outs)) (wL wItm x.code)<0)=true:=J0 hn2
  obtain⟨ha2,hb2⟩:=JZ hn2
  repeat' first|refine Z1 ?_|refine Z2 ?_|refine Z5 ?_|refine Zc (JV x.outs (left-(x.name.size:Int)) (by omega) (by omega) hd1) ?_|refine Zc (J1c x.code (subI (left-(x.name.size:Int)) (wL wStr x.outs)) (by omega) (by omega) hd2) ?_|refine Zg ?_|refine Zo ?_|refine J5 ?_|refine Zp ?_|refine Zq ?_|refine J7 ?_|refine J9 ?_|refine J3 ?_|refine J8 ?_|refine Zt ?_
  exact Jw (by rw[Jt (by simp only[wSm];omega)])
 have en2:decide (subI (subI (left-(x.name.size:Int)) (wL wStr x.outs)) (wL wItm x.code)<0)=false:=J1 hn2
 obtain⟨ha2,hb2⟩:=J02 hn2 (by omega)
 by_cases hn3:subI (subI (subI (left-(x.name.size:Int)) (wL wStr x.outs)) (wL wItm x.code)) (wL (wL wItm) x.args)<0
 ·have en3:decide (subI (subI (subI (left-(x.name.size:Int)) (wL wStr x.outs)) (wL wItm x.code)) (wL (wL wItm) x.args)<0)=true:=J0 hn3
  obtain⟨ha3,hb3⟩:=JZ hn3
  repeat' first|refine Z1 ?_|refine Z2 ?_|refine Z5 ?_|refine Zc (JV x.outs (left-(x.name.size:Int)) (by omega) (by omega) hd1) ?_|refine Zc (J1c x.code (subI (left-(x.name.size:Int)) (wL wStr x.outs)) (by omega) (by omega) hd2) ?_|refine Zc (J3m x.args (subI (subI (left-(x.name.size:Int)) (wL wStr x.outs)) (wL wItm x.code)) (by omega) (by omega) hd3) ?_|refine Zg ?_|refine Zo ?_|refine J5 ?_|refine Zp ?_|refine Zq ?_|refine J7 ?_|refine J9 ?_|refine J3 ?_|refine J8 ?_|refine Zt ?_
  exact Jw (by rw[Jt (by simp only[wSm];omega)])
 have en3:decide (subI (subI (subI (left-(x.name.size:Int)) (wL wStr x.outs)) (wL wItm x.code)) (wL (wL wItm) x.args)<0)=false:=J1 hn3
 obtain⟨ha3,hb3⟩:=J02 hn3 (by omega)
 repeat' first|refine Z1 ?_|refine Z2 ?_|refine Z5 ?_|refine Zc (JV x.outs (left-(x.name.size:Int)) (by omega) (by omega) hd1) ?_|refine Zc (J1c x.code (subI (left-(x.name.size:Int)) (wL wStr x.outs)) (by omega) (by omega) hd2) ?_|refine Zc (J3m x.args (subI (subI (left-(x.name.size:Int)) (wL wStr x.outs)) (wL wItm x.code)) (by omega) (by omega) hd3) ?_|refine Zg ?_|refine Zo ?_|refine J5 ?_|refine Zq ?_|refine J7 ?_|refine J9 ?_|refine J3 ?_|refine Zt ?_
 exact Jw (by rw[J2s (left:=left) (n:=wSm x) (by simp only[wSm];omega)];(simp only[wSm]<;>omega))
theorem J5i (l:List (Sm)) (left:Int) (h0:0≤left) (h1:left≤1048576) (hd:dL (dSm) l):PFun X 108 [.d (.im (l.map eSm)),vi left] (vi (subI left (wL (wSm) l))):=by
 obtain⟨hd1,hd2⟩:=hd
 simp only[mx]at hd1
 refine Jj Tryz.func108 rfl (by decide) Tryz.ntmps108 Tryz.results108 (by simp) rfl rfl ?_
 by_cases hlt:left-(l.length:Int)<0
 ·have e1:decide (left-(l.length:Int)<0)=true:=J0 hlt
  repeat' first|refine Z1 ?_|refine Z2 ?_|refine Z5 ?_|refine Zd ?_|refine Zg ?_|refine Zo ?_|refine J5 ?_|refine Zp ?_|refine J9 ?_|refine J8 ?_|refine Zt ?_
  exact Jw (by rw[Jt (by simp only[wL];omega)])
 ·have e1:decide (left-(l.length:Int)<0)=false:=J1 hlt
  repeat' first|refine Z1 ?_|refine Z2 ?_|refine Z5 ?_|refine Zd ?_|refine Zg ?_|refine Zo ?_|refine J5 ?_|refine Zq ?_|refine J4 ?_|refine J7 ?_|refine J3 ?_
  refine Jo (ι:=Nat×Int) (fun x=>envL [(0,.d (.im (l.map eSm))),(1,vi x.2),(4,vi 0),(5,vi x.1)]) (fun x=>stL []) (fun x=>x.1≤l.length∧0≤x.2∧x.2≤left∧subI x.2 ((l.drop x.1).map (wSm)).sum=subI left (wL (wSm) l)) (fun x=>l.length-x.1) (0,left-l.length) (⟨Nat.zero_le _,by simp only;omega,by simp only;omega,by simp only[List.drop_zero];rw[J0e (by omega)];rfl⟩) (Jg rfl ⟨.refl _,.refl _,.refl _,.refl _,trivial⟩ trivial) (fun _=>Nat.le_refl 0) ?_
  rintro⟨k,lf⟩ ⟨i1,i2,i3,i4⟩
  simp only at i1 i2 i3 i4
  rcases hx:l[k]? with _|x
  ·have hle:=Jk hx
   have ek:decide ((k:Int)<(l.length:Int))=false:=J1 (by omega)
   rw[Jm hx]at i4
   repeat' first|refine Z1 ?_|refine Z2 ?_|refine Z5 ?_|refine Zd ?_|refine Zo ?_|refine J5 ?_|refine Zq ?_|refine Jf ?_|refine J9 ?_|refine J3 ?_|refine Jb ?_|refine Zv ?_|refine Zt ?_
   exact Jw (by rw[←i4];simp[subI];omega)
  ·obtain⟨hdr,hlt2⟩:=Jc hx
   have ek:decide ((k:Int)<(l.length:Int))=true:=J0 (by omega)
   rw[hdr,List.map_cons,List.sum_cons]at i4
   have hdx:=hd2 x (List.mem_of_getElem? hx)
   by_cases hn:subI lf (wSm x)<0
   ·have en:decide (subI lf (wSm x)<0)=true:=J0 hn
    obtain⟨hn1,hn2⟩:=JZ hn
    repeat' first|refine Z1 ?_|refine Z2 ?_|refine Z5 ?_|refine Zc (J6R x lf i2 (by omega) hdx) ?_|refine Zd ?_|refine Ze ?_|refine Zo ?_|refine J5 ?_|refine Zp ?_|refine J4 ?_|refine J7 ?_|refine J9 ?_|refine J3 ?_|refine J8 ?_|refine Ja ?_|refine Zt ?_
    exact Jw (by rw[←i4,Jt (by omega)])
   ·have en:decide (subI lf (wSm x)<0)=false:=J1 hn
    obtain⟨hn1,hn2⟩:=J02 hn i2
    repeat' first|refine Z1 ?_|refine Z2 ?_|refine Z5 ?_|refine Zc (J6R x lf i2 (by omega) hdx) ?_|refine Zd ?_|refine Ze ?_|refine Zf ?_|refine Zo ?_|refine J5 ?_|refine Jd ?_|refine Zp ?_|refine Zq ?_|refine J4 ?_|refine J7 ?_|refine J3 ?_|refine J6 ?_
    exact⟨(k+1,subI lf (wSm x)),⟨by simp only;omega,by simp only;omega,by simp only;omega,by simp only;rw[hn2,J0e hn1];exact i4⟩,by(try simp only);omega,Jh (Nat.zero_le _) ⟨⟨rfl,rfl⟩,⟨rfl,rfl⟩,⟨rfl,rfl⟩,⟨rfl,rfl⟩,trivial⟩ trivial⟩
theorem J3W (x:Cls) (left:Int) (h0:0≤left) (h1:left≤1048576) (hd:dCls x):PFun X 65 [.agg ((eCls x).map .d),vi left] (vi (subI left (wCls x))):=by
 obtain⟨hd0,hd1,hd2,hd3,hd4,hd5,hd6⟩:=hd
 have hd0:x.name.size≤9223372036854775807:=hd0
 refine Jj Tryz.func65 rfl (by decide) Tryz.ntmps65 Tryz.results65 (by simp) rfl rfl ?_
 by_cases hn0:left-(x.name.size:Int)<0
 ·have en0:decide (left-(x.name.size:Int)<0)=true:=J0 hn0
  repeat' first|refine Z1 ?_|refine Z2 ?_|refine Z5 ?_|refine Zg ?_|refine Zo ?_|refine J5 ?_|refine Zp ?_|refine J9 ?_|refine J8 ?_|refine Zt ?_
  exact Jw (by rw[Jt (by simp only[wCls];omega)])
 have en0:decide (left-(x.name.size:Int)<0)=false:=J1 hn0
 by_cases hn1:subI (left-(x.name.size:Int)) (wL wSlt x.ins)<0
 ·have en1:decide (subI (left-(x.name.size:Int)) (wL wSlt x.ins)<0)=true:=J0 hn1
  obtain⟨ha1,hb1⟩:=JZ hn1
  repeat' first|refine Z1 ?_|refine Z2 ?_|refine Z5 ?_|refine Zc (JP x.ins (left-(x.name.size:Int)) (by omega) (by omega) hd1) ?_|refine Zg ?_|refine Zo ?_|refine J5 ?_|refine Zp ?_|refine Zq ?_|refine J7 ?_|refine J9 ?_|refine J3 ?_|refine J8 ?_|refine Zt ?_
  exact Jw (by rw[Jt (by simp only[wCls];omega)])
 have en1:decide (subI (left-(x.name.size:Int)) (wL wSlt x.ins)<0)=false:=J1 hn1
 obtain⟨ha1,hb1⟩:=J02 hn1 (by omega)
 by_cases hn2:subI (subI (left-(x.name.size:Int)) (wL wSlt x.ins)) (wL wSlt x.outs)<0
 ·have en2:decide (subI (subI (left-(x.name.size:Int)) (wL wSlt x.ins)) (wL wSlt x.outs)<0)=true:=J0 hn2
  obtain⟨ha2,hb2⟩:=JZ hn2
  repeat' first|refine Z1 ?_|refine Z2 ?_|refine Z5 ?_|refine Zc (JP x.ins (left-(x.name.size:Int)) (by omega) (by omega) hd1) ?_|refine Zc (JP x.outs (subI (left-(x.name.size:Int)) (wL wSlt x.ins)) (by omega) (by omega) hd2) ?_|refine Zg ?_|refine Zo ?_|refine J5 ?_|refine Zp ?_|refine Zq ?_|refine J7 ?_|refine J9 ?_|refine J3 ?_|refine J8 ?_|refine Zt ?_
  exact Jw (by rw[Jt (by simp only[wCls];omega)])
 have en2:decide (subI (subI (left-(x.name.size:Int)) (wL wSlt x.ins)) (wL wSlt x.outs)<0)=false:=J1 hn2
 obtain⟨ha2,hb2⟩:=J02 hn2 (by omega)
 by_cases hn3:subI (subI (subI (left-(x.name.size:Int)) (wL wSlt x.ins)) (wL wSlt x.outs)) (wL wStr x.locs)<0
 ·have en3:decide (subI (subI (subI (left-(x.name.size:Int)) (wL wSlt x.ins)) (wL wSlt x.outs)) (wL wStr x.locs)<0)=true:=J0 hn3
  obtain⟨ha3,hb3⟩:=JZ hn3
  repeat' first|refine Z1 ?_|refine Z2 ?_|refine Z5 ?_|refine Zc (JP x.ins (left-(x.name.size:Int)) (by omega) (by omega) hd1) ?_|refine Zc (JP x.outs (subI (left-(x.name.size:Int)) (wL wSlt x.ins)) (by omega) (by omega) hd2) ?_|refine Zc (JV x.locs (subI (subI (left-(x.name.size:Int)) (wL wSlt x.ins)) (wL wSlt x.outs)) (by omega) (by omega) hd3) ?_|refine Zg ?_|refine Zo ?_|refine J5 ?_|refine Zp ?_|refine Zq ?_|refine J7 ?_|refine J9 ?_|refine J3 ?_|refine J8 ?_|refine Zt ?_
  exact Jw (by rw[Jt (by simp only[wCls];omega)])
 have en3:decide (subI (subI (subI (left-(x.name.size:Int)) (wL wSlt x.ins)) (wL wSlt x.outs)) (wL wStr x.locs)<0)=false:=J1 hn3
 obtain⟨ha3,hb3⟩:=J02 hn3 (by omega)
 by_cases hn4:subI (subI (subI (subI (left-(x.name.size:Int)) (wL wSlt x.ins)) (wL wSlt x.outs)) (wL wStr x.locs)) (wL wNum0 x.mems)<0
 ·have en4:decide (subI (subI (subI (subI (left-(x.name.size:Int)) (wL wSlt x.ins)) (wL wSlt x.outs)) (wL wStr x.locs)) (wL wNum0 x.mems)<0)=true:=J0 hn4
  obtain⟨ha4,hb4⟩:=JZ hn4
  repeat' first|refine Z1 ?_|refine Z2 ?_|refine Z5 ?_|refine Zc (JP x.ins (left-(x.name.size:Int)) (by omega) (by omega) hd1) ?_|refine Zc (JP x.outs (subI (left-(x.name.size:Int)) (wL wSlt x.ins)) (by omega) (by omega) hd2) ?_|refine Zc (JV x.locs (subI (subI (left-(x.name.size:Int)) (wL wSlt x.ins)) (wL wSlt x.outs)) (by omega) (by omega) hd3) ?_|refine Zc (J0E x.mems (subI (subI (subI (left-(x.name.size:Int)) (wL wSlt x.ins)) (wL wSlt x.outs)) (wL wStr x.locs)) (by omega) (by omega) hd4) ?_|refine Zg ?_|refine Zo ?_|refine J5 ?_|refine Zp ?_|refine Zq ?_|refine J7 ?_|refine J9 ?_|refine J3 ?_|refine J8 ?_|refine Zt ?_
  exact Jw (by rw[Jt (by simp only[wCls];omega)])
 have en4:decide (subI (subI (subI (subI (left-(x.name.size:Int)) (wL wSlt x.ins)) (wL wSlt x.outs)) (wL wStr x.locs)) (wL wNum0 x.mems)<0)=false:=J1 hn4
 obtain⟨ha4,hb4⟩:=J02 hn4 (by omega)
 by_cases hn5:subI (subI (subI (subI (subI (left-(x.name.size:Int)) (wL wSlt x.ins)) (wL wSlt x.outs)) (wL wStr x.locs)) (wL wNum0 x.mems)) (wL wNum0 x.insts)<0
 ·have en5:decide (subI (subI (subI (subI (subI (left-(x.name.size:Int)) (wL wSlt x.ins)) (wL wSlt x.outs)) (wL wStr x.locs)) (wL wNum0 x.mems)) (wL wNum0 x.insts)<0)=true:=J0 hn5
  obtain⟨ha5,hb5⟩:=JZ hn5
  repeat' first|refine Z1 ?_|refine Z2 ?_|refine Z5 ?_|refine Zc (JP x.ins (left-(x.name.size:Int)) (by omega) (by omega) hd1) ?_|refine Zc (JP x.outs (subI (left-(x.name.size:Int)) (wL wSlt x.ins)) (by omega) (by omega) hd2) ?_|refine Zc (JV x.locs (subI (subI (left-(x.name.size:Int)) (wL wSlt x.ins)) (wL wSlt x.outs)) (by omega) (by omega) hd3) ?_|refine Zc (J0E x.mems (subI (subI (subI (left-(x.name.size:Int)) (wL wSlt x.ins)) (wL wSlt x.outs)) (wL wStr x.locs)) (by omega) (by omega) hd4) ?_|refine Zc (J0E x.insts (subI (subI (subI (subI (left-(x.name.size:Int)) (wL wSlt x.ins)) (wL wSlt x.outs)) (wL wStr x.locs)) (wL wNum0 x.mems)) (by omega) (by omega) hd5) ?_|refine Zg ?_|refine Zo ?_|refine J5 ?_|refine Zp ?_|refine Zq ?_|refine J7 ?_|refine J9 ?_|refine J3 ?_|refine J8 ?_|refine Zt ?_
  exact Jw (by rw[Jt (by simp only[wCls];omega)])
 have en5:decide (subI (subI (subI (subI (subI (left-(x.name.size:Int)) (wL wSlt x.ins)) (wL wSlt x.outs)) (wL wStr x.locs)) (wL wNum0 x.mems)) (wL wNum0 x.insts)<0)=false:=J1 hn5
 obtain⟨ha5,hb5⟩:=J02 hn5 (by omega)
 by_cases hn6:subI (subI (subI (subI (subI (subI (left-(x.name.size:Int)) (wL wSlt x.ins)) (wL wSlt x.outs)) (wL wStr x.locs)) (wL wNum0 x.mems)) (wL wNum0 x.insts)) (wL wSm x.body)<0
 ·have en6:decide (subI (subI (subI (subI (subI (subI (left-(x.name.size:Int)) (wL wSlt x.ins)) (wL wSlt x.outs)) (wL wStr x.locs)) (wL wNum0 x.mems)) (wL wNum0 x.insts)) (wL wSm x.body)<0)=true:=J0 hn6
  obtain⟨ha6,hb6⟩:=JZ hn6
  repeat' first|refine Z1 ?_|refine Z2 ?_|refine Z5 ?_|refine Zc (JP x.ins (left-(x.name.size:Int)) (by omega) (by omega) hd1) ?_|refine Zc (JP x.outs (subI (left-(x.name.size:Int)) (wL wSlt x.ins)) (by omega) (by omega) hd2) ?_|refine Zc (JV x.locs (subI (subI (left-(x.name.size:Int)) (wL wSlt x.ins)) (wL wSlt x.outs)) (by omega) (by omega) hd3) ?_|refine Zc (J0E x.mems (subI (subI (subI (left-(x.name.size:Int)) (wL wSlt x.ins)) (wL wSlt x.outs)) (wL wStr x.locs)) (by omega) (by omega) hd4) ?_|refine Zc (J0E x.insts (subI (subI (subI (subI (left-(x.name.size:Int)) (wL wSlt x.ins)) (wL wSlt x.outs)) (wL wStr x.locs)) (wL wNum0 x.mems)) (by omega) (by omega) hd5) ?_|refine Zc (J5i x.body (subI (subI (subI (subI (subI (left-(x.name.size:Int)) (wL wSlt x.ins)) (wL wSlt x.outs)) (wL wStr x.locs)) (wL wNum0 x.mems)) (wL wNum0 x.insts)) (by omega) (by omega) hd6) ?_|refine Zg ?_|refine Zo ?_|refine J5 ?_|refine Zp ?_|refine Zq ?_|refine J7 ?_|refine J9 ?_|refine J3 ?_|refine J8 ?_|refine Zt ?_
  exact Jw (by rw[Jt (by simp only[wCls];omega)])
 have en6:decide (subI (subI (subI (subI (subI (subI (left-(x.name.size:Int)) (wL wSlt x.ins)) (wL wSlt x.outs)) (wL wStr x.locs)) (wL wNum0 x.mems)) (wL wNum0 x.insts)) (wL wSm x.body)<0)=false:=J1 hn6
 obtain⟨ha6,hb6⟩:=J02 hn6 (by omega)
 repeat' first|refine Z1 ?_|refine Z2 ?_|refine Z5 ?_|refine Zc (JP x.ins (left-(x.name.size:Int)) (by omega) (by omega) hd1) ?_|refine Zc (JP x.outs (subI (left-(x.name.size:Int)) (wL wSlt x.ins)) (by omega) (by omega) hd2) ?_|refine Zc (JV x.locs (subI (subI (left-(x.name.size:Int)) (wL wSlt x.ins)) (wL wSlt x.outs)) (by omega) (by omega) hd3) ?_|refine Zc (J0E x.mems (subI (subI (subI (left-(x.name.size:Int)) (wL wSlt x.ins)) (wL wSlt x.outs)) (wL wStr x.locs)) (by omega) (by omega) hd4) ?_|refine Zc (J0E x.insts (subI (subI (subI (subI (left-(x.name.size:Int)) (wL wSlt x.ins)) (wL wSlt x.outs)) (wL wStr x.locs)) (wL wNum0 x.mems)) (by omega) (by omega) hd5) ?_|refine Zc (J5i x.body (subI (subI (subI (subI (subI (left-(x.name.size:Int)) (wL wSlt x.ins)) (wL wSlt x.outs)) (wL wStr x.locs)) (wL wNum0 x.mems)) (wL wNum0 x.insts)) (by omega) (by omega) hd6) ?_|refine Zg ?_|refine Zo ?_|refine J5 ?_|refine Zq ?_|refine J7 ?_|refine J9 ?_|refine J3 ?_|refine Zt ?_
 exact Jw (by rw[J2s (left:=left) (n:=wCls x) (by simp only[wCls];omega)];(simp only[wCls]<;>omega))
theorem J3u (l:List (Cls)) (left:Int) (h0:0≤left) (h1:left≤1048576) (hd:dL (dCls) l):PFun X 24 [.d (.im (l.map eCls)),vi left] (vi (subI left (wL (wCls) l))):=by
 obtain⟨hd1,hd2⟩:=hd
 simp only[mx]at hd1
 refine Jj Tryz.func24 rfl (by decide) Tryz.ntmps24 Tryz.results24 (by simp) rfl rfl ?_
 by_cases hlt:left-(l.length:Int)<0
 ·have e1:decide (left-(l.length:Int)<0)=true:=J0 hlt
  repeat' first|refine Z1 ?_|refine Z2 ?_|refine Z5 ?_|refine Zd ?_|refine Zg ?_|refine Zo ?_|refine J5 ?_|refine Zp ?_|refine J9 ?_|refine J8 ?_|refine Zt ?_
  exact Jw (by rw[Jt (by simp only[wL];omega)])
 ·have e1:decide (left-(l.length:Int)<0)=false:=J1 hlt
  repeat' first|refine Z1 ?_|refine Z2 ?_|refine Z5 ?_|refine Zd ?_|refine Zg ?_|refine Zo ?_|refine J5 ?_|refine Zq ?_|refine J4 ?_|refine J7 ?_|refine J3 ?_
  refine Jo (ι:=Nat×Int) (fun x=>envL [(0,.d (.im (l.map eCls))),(1,vi x.2),(4,vi 0),(5,vi x.1)]) (fun x=>stL []) (fun x=>x.1≤l.length∧0≤x.2∧x.2≤left∧subI x.2 ((l.drop x.1).map (wCls)).sum=subI left (wL (wCls) l)) (fun x=>l.length-x.1) (0,left-l.length) (⟨Nat.zero_le _,by simp only;omega,by simp only;omega,by simp only[List.drop_zero];rw[J0e (by omega)];rfl⟩) (Jg rfl ⟨.refl _,.refl _,.refl _,.refl _,trivial⟩ trivial) (fun _=>Nat.le_refl 0) ?_
  rintro⟨k,lf⟩ ⟨i1,i2,i3,i4⟩
  simp only at i1 i2 i3 i4
  rcases hx:l[k]? with _|x
  ·have hle:=Jk hx
   have ek:decide ((k:Int)<(l.length:Int))=false:=J1 (by omega)
   rw[Jm hx]at i4
   repeat' first|refine Z1 ?_|refine Z2 ?_|refine Z5 ?_|refine Zd ?_|refine Zo ?_|refine J5 ?_|refine Zq ?_|refine Jf ?_|refine J9 ?_|refine J3 ?_|refine Jb ?_|refine Zv ?_|refine Zt ?_
   exact Jw (by rw[←i4];simp[subI];omega)
  ·obtain⟨hdr,hlt2⟩:=Jc hx
   have ek:decide ((k:Int)<(l.length:Int))=true:=J0 (by omega)
   rw[hdr,List.map_cons,List.sum_cons]at i4
   have hdx:=hd2 x (List.mem_of_getElem? hx)
   by_cases hn:subI lf (wCls x)<0
   ·have en:decide (subI lf (wCls x)<0)=true:=J0 hn
    obtain⟨hn1,hn2⟩:=JZ hn
    repeat' first|refine Z1 ?_|refine Z2 ?_|refine Z5 ?_|refine Zc (J3W x lf i2 (by omega) hdx) ?_|refine Zd ?_|refine Ze ?_|refine Zo ?_|refine J5 ?_|refine Zp ?_|refine J4 ?_|refine J7 ?_|refine J9 ?_|refine J3 ?_|refine J8 ?_|refine Ja ?_|refine Zt ?_
    exact Jw (by rw[←i4,Jt (by omega)])
   ·have en:decide (subI lf (wCls x)<0)=false:=J1 hn
    obtain⟨hn1,hn2⟩:=J02 hn i2
    repeat' first|refine Z1 ?_|refine Z2 ?_|refine Z5 ?_|refine Zc (J3W x lf i2 (by omega) hdx) ?_|refine Zd ?_|refine Ze ?_|refine Zf ?_|refine Zo ?_|refine J5 ?_|refine Jd ?_|refine Zp ?_|refine Zq ?_|refine J4 ?_|refine J7 ?_|refine J3 ?_|refine J6 ?_
    exact⟨(k+1,subI lf (wCls x)),⟨by simp only;omega,by simp only;omega,by simp only;omega,by simp only;rw[hn2,J0e hn1];exact i4⟩,by(try simp only);omega,Jh (Nat.zero_le _) ⟨⟨rfl,rfl⟩,⟨rfl,rfl⟩,⟨rfl,rfl⟩,⟨rfl,rfl⟩,trivial⟩ trivial⟩
theorem J36 (l:List Cls) (left:Int) (h0:0≤left) (h1:left≤1048576) (hd:dL dCls l):PFun X 7 [.agg [.d (.im (l.map eCls))],vi left] (vi (subI left (wL wCls l))):=by
 refine Jj Tryz.func7 rfl (by decide) Tryz.ntmps7 Tryz.results7 (by simp) rfl rfl ?_
 by_cases hn:subI left (wL wCls l)<0
 ·have en:decide (subI left (wL wCls l)<0)=true:=J0 hn
  obtain⟨hn1,hn2⟩:=JZ hn
  repeat' first|refine Z1 ?_|refine Z2 ?_|refine Z5 ?_|refine Zc (J3u l left h0 h1 hd) ?_|refine Zo ?_|refine J5 ?_|refine Zp ?_|refine J9 ?_|refine J8 ?_|refine Zt ?_
  exact Jw hn2.symm
 ·have en:decide (subI left (wL wCls l)<0)=false:=J1 hn
  repeat' first|refine Z1 ?_|refine Z2 ?_|refine Z5 ?_|refine Zc (J3u l left h0 h1 hd) ?_|refine Zo ?_|refine J5 ?_|refine Zq ?_|refine J7 ?_|refine J9 ?_|refine J3 ?_|refine Zt ?_
  rfl
end Go.Pm
/- Part of the proof: Ms9. -/
namespace Go.Pm
attribute [local irreducible] AR Ok inBlock andThen endQ aoper
set_option maxHeartbeats 4000000
open Go.Proofs
theorem J3Z {cs:List Cls} {k:Nat} {c:Cls} (h:classS cs k c=true):goodC k c:=by
 obtain⟨_,_,_,_,_,_,h1,h2,h3,_⟩:=(J2m cs k c).1 h
 refine⟨?_,fun g hg=>?_,fun s hs k3=>?_⟩
 ·unfold nestV at h3
  cases hq:growI c.body with
  |none=>rw[hq]at h3;cases h3
  |some R=>exact⟨R,rfl⟩
 ·have:=List.all_eq_true.1 h1 g hg
  simpa[insS]using this
 ·have:=List.all_eq_true.1 h2 s hs
  unfold stmS at this
  split at this;· cases this
  split at this;· cases this
  split at this;· cases this
  split at this;· cases this
  simp only[k3]at this
  simp at this
  exact this.1
theorem JaZ (cs:List Cls) (hw:wL wCls cs≤1048576):PFun X 37 [.agg [.d (.im (cs.map eCls))]] (vb (mokS cs)):=by
 have hcl:cs.length≤1048576:=by simp only[wL]at hw;omega
 have hm:mokS cs=mokS cs:=rfl
 conv at hm=>rhs;unfold mokS
 refine Jj Tryz.func37 rfl (by decide) Tryz.ntmps37 Tryz.results37 (by simp) rfl rfl ?_
 by_cases hb:(cs.length:Int)<1∨200<(cs.length:Int)
 ·rw[if_pos hb]at hm
  by_cases h1:(cs.length:Int)<1
  ·have e1:decide ((cs.length:Int)<1)=true:=J0 h1
   repeat' first|refine Z1 ?_|refine Z2 ?_|refine Z5 ?_|refine Z9 ?_|refine Zd ?_|refine Zl ?_|refine Zo ?_|refine J5 ?_|refine Zp ?_|refine J9 ?_|refine J8 ?_|refine Zt ?_
   exact Ji hm.symm
  ·have e1:decide ((cs.length:Int)<1)=false:=J1 h1
   have e2:decide (200<(cs.length:Int))=true:=J0 (by omega)
   repeat' first|refine Z1 ?_|refine Z2 ?_|refine Z5 ?_|refine Z7 ?_|refine Zd ?_|refine Zh ?_|refine Zi ?_|refine Zm ?_|refine Zo ?_|refine J5 ?_|refine Zp ?_|refine J9 ?_|refine J8 ?_|refine Zt ?_
   exact Ji hm.symm
 have e1:decide ((cs.length:Int)<1)=false:=J1 (by omega)
 have e2:decide (200<(cs.length:Int))=false:=J1 (by omega)
 rw[if_neg hb]at hm
 repeat' first|refine Z1 ?_|refine Z2 ?_|refine Z5 ?_|refine Z7 ?_|refine Zd ?_|refine Zh ?_|refine Zi ?_|refine Zm ?_|refine Zo ?_|refine J5 ?_|refine Zq ?_|refine J4 ?_|refine J7 ?_|refine J3 ?_
 refine Jo (ι:=Nat) (fun x=>envL [(1,.ref 0 0),(20,vi cs.length),(21,vi x)]) (fun x=>stL [some (.var [.d (.im (cs.map eCls))])]) (fun x=>x≤cs.length∧∀j,j<x→classAt cs j=true) (fun x=>cs.length-x) 0 (⟨Nat.zero_le _,fun j hj=>by omega⟩) (Jg rfl ⟨.refl _,.refl _,.refl _,trivial⟩ ⟨⟨rfl,_,rfl,rfl,fun _ _ _=>.refl _⟩,trivial⟩) (fun _=>Nat.le_refl 1) ?_
 rintro k ⟨i1,i2⟩
 by_cases hk:k<cs.length
 ·obtain⟨c,hx⟩:∃c,cs[k]? = some c:=⟨cs[k],List.getElem?_eq_getElem hk⟩
  have ek:decide ((k:Int)<(cs.length:Int))=true:=J0 (by omega)
  have hcls:=J8E cs k c hx hw
  have hca:classAt cs k=classS cs k c:=by unfold classAt;rw[hx]
  cases hq:classS cs k c with
  |false=>
   have n1:(!classS cs k c)=true:=by rw[hq];rfl
   have hf:(List.range cs.length).all (classAt cs)=false:=by
    cases hz:(List.range cs.length).all (classAt cs)with
    |false=>rfl
    |true=>rw[←hq,(J4t cs).1 hz k c hx]
   rw[if_pos hf]at hm
   repeat' first|refine Z1 ?_|refine Z2 ?_|refine Z5 ?_|refine Zc (hcls) ?_|refine Zo ?_|refine J5 ?_|refine Zp ?_|refine J4 ?_|refine J7 ?_|refine J9 ?_|refine J3 ?_|refine J8 ?_|refine Ja ?_|refine Zt ?_
   exact Ji hm.symm
  |true=>
   have n1:(!classS cs k c)=false:=by rw[hq];rfl
   have hg:∀j,j<k+1→classAt cs j=true:=by
    intro j hj
    rcases Nat.lt_or_ge j k with h|h
    ·exact i2 j h
    ·rw[show j=k by omega,hca,hq]
   repeat' first|refine Z1 ?_|refine Z2 ?_|refine Z5 ?_|refine Zc (hcls) ?_|refine Zf ?_|refine Zo ?_|refine J5 ?_|refine Jd ?_|refine Zp ?_|refine Zq ?_|refine J4 ?_|refine J7 ?_|refine J3 ?_|refine J6 ?_
   exact⟨k+1,⟨hk,hg⟩,by(try simp only);omega,Jh (Nat.le_of_ble_eq_true rfl) ⟨⟨rfl,rfl⟩,⟨rfl,rfl⟩,⟨rfl,rfl⟩,trivial⟩ ⟨⟨rfl,rfl⟩,trivial⟩⟩
 have ek:decide ((k:Int)<(cs.length:Int))=false:=J1 (by omega)
 have hall:(List.range cs.length).all (classAt cs)=true:=by
  rw[List.all_eq_true]
  intro j hj
  exact i2 j (by have:=List.mem_range.1 hj;omega)
 rw[if_neg (by rw[hall];simp)]at hm
 have hgd:∀(k:Nat) (c:Cls),cs[k]? = some c→goodC k c:=fun k c hx=>J3Z ((J4t cs).1 hall k c hx)
 have hcell:=J8F cs hw (fun k c hx=>(hgd k c hx).2.1)
 have hbnd:=J7s cs hw hgd
 have hcn:(cellsS cs).length=cs.length:=by unfold cellsS;rw[J3k];simp
 have hbn:(boundsS cs).length=cs.length:=by unfold boundsS;rw[J35];simp
 repeat' first|refine Z1 ?_|refine Z2 ?_|refine Z5 ?_|refine Zc (hcell) ?_|refine Zd ?_|refine Zo ?_|refine J5 ?_|refine Zq ?_|refine J4 ?_|refine Jf ?_|refine J3 ?_|refine Jb ?_|refine Zv ?_
 refine Jo (ι:=Nat) (fun x=>envL [(1,.ref 0 0),(30,.d (.im ((cellsS cs).map eNum))),(31,vi (cellsS cs).length),(32,vi x)]) (fun x=>stL [some (.var [.d (.im (cs.map eCls))])]) (fun x=>x≤(cellsS cs).length∧((cellsS cs).drop x).all (fun z=>decide (z≤20000))=(cellsS cs).all (fun z=>decide (z≤20000))) (fun x=>(cellsS cs).length-x) 0 (⟨Nat.zero_le _,rfl⟩) (Jg rfl ⟨.refl _,.refl _,.refl _,.refl _,trivial⟩ ⟨⟨rfl,_,rfl,rfl,fun _ _ _=>.refl _⟩,trivial⟩) (fun _=>Nat.le_refl 1) ?_
 rintro x ⟨i1,i2⟩
 rcases hx:(cellsS cs)[x]? with _|v
 rotate_left
 ·obtain⟨hd,hlt⟩:=Jc hx
  have ek:decide ((x:Int)<((cellsS cs).length:Int))=true:=J0 (by omega)
  obtain⟨a1,a2⟩:=J3e i2 hx
  by_cases t1:20000<v
  ·have u1:decide (20000<v)=true:=J0 t1
   rw[if_pos (a1 (J1 (by omega)))]at hm
   repeat' first|refine Z1 ?_|refine Z2 ?_|refine Z5 ?_|refine Ze ?_|refine Zo ?_|refine J5 ?_|refine Zp ?_|refine J4 ?_|refine J7 ?_|refine J9 ?_|refine J3 ?_|refine J8 ?_|refine Ja ?_|refine Zt ?_
   exact Ji hm.symm
  ·have u1:decide (20000<v)=false:=J1 t1
   repeat' first|refine Z1 ?_|refine Z2 ?_|refine Z5 ?_|refine Ze ?_|refine Zf ?_|refine Zo ?_|refine J5 ?_|refine Jd ?_|refine Zp ?_|refine Zq ?_|refine J4 ?_|refine J7 ?_|refine J3 ?_|refine J6 ?_
   exact⟨x+1,⟨hlt,a2 (J0 (by omega))⟩,by(try simp only);omega,Jh (Nat.le_of_ble_eq_true rfl) ⟨⟨rfl,rfl⟩,⟨rfl,rfl⟩,⟨rfl,rfl⟩,⟨rfl,rfl⟩,trivial⟩ ⟨⟨rfl,rfl⟩,trivial⟩⟩
 have hle:=Jk hx
 have ek:decide ((x:Int)<((cellsS cs).length:Int))=false:=J1 (by omega)
 rw[Jm hx]at i2
 rw[if_neg (by rw[←i2];simp)]at hm
 repeat' first|refine Z1 ?_|refine Z2 ?_|refine Z5 ?_|refine Zc (hbnd) ?_|refine Zd ?_|refine Zo ?_|refine J5 ?_|refine Zq ?_|refine J4 ?_|refine Jf ?_|refine J3 ?_|refine Jb ?_|refine Zv ?_
 refine Jo (ι:=Nat) (fun x=>envL [(1,.ref 0 0),(40,.d (.im ((boundsS cs).map eNum))),(41,vi (boundsS cs).length),(42,vi x)]) (fun x=>stL [some (.var [.d (.im (cs.map eCls))])]) (fun x=>x≤(boundsS cs).length∧((boundsS cs).drop x).all (fun z=>decide (z≤400000))=(boundsS cs).all (fun z=>decide (z≤400000))) (fun x=>(boundsS cs).length-x) 0 (⟨Nat.zero_le _,rfl⟩) (Jg rfl ⟨.refl _,.refl _,.refl _,.refl _,trivial⟩ ⟨⟨rfl,_,rfl,rfl,fun _ _ _=>.refl _⟩,trivial⟩) (fun _=>Nat.le_refl 1) ?_
 rintro x ⟨i1,i2⟩
 rcases hx:(boundsS cs)[x]? with _|v
 rotate_left
 ·obtain⟨hd,hlt⟩:=Jc hx
  have ek:decide ((x:Int)<((boundsS cs).length:Int))=true:=J0 (by omega)
  obtain⟨a1,a2⟩:=J3e i2 hx
  by_cases t1:400000<v
  ·have u1:decide (400000<v)=true:=J0 t1
   have hm:=hm.trans (a1 (J1 (by omega)))
   repeat' first|refine Z1 ?_|refine Z2 ?_|refine Z5 ?_|refine Ze ?_|refine Zo ?_|refine J5 ?_|refine Zp ?_|refine J4 ?_|refine J7 ?_|refine J9 ?_|refine J3 ?_|refine J8 ?_|refine Ja ?_|refine Zt ?_
   exact Ji hm.symm
  ·have u1:decide (400000<v)=false:=J1 t1
   repeat' first|refine Z1 ?_|refine Z2 ?_|refine Z5 ?_|refine Ze ?_|refine Zf ?_|refine Zo ?_|refine J5 ?_|refine Jd ?_|refine Zp ?_|refine Zq ?_|refine J4 ?_|refine J7 ?_|refine J3 ?_|refine J6 ?_
   exact⟨x+1,⟨hlt,a2 (J0 (by omega))⟩,by(try simp only);omega,Jh (Nat.le_of_ble_eq_true rfl) ⟨⟨rfl,rfl⟩,⟨rfl,rfl⟩,⟨rfl,rfl⟩,⟨rfl,rfl⟩,trivial⟩ ⟨⟨rfl,rfl⟩,trivial⟩⟩
 have hle:=Jk hx
 have ek:decide ((x:Int)<((boundsS cs).length:Int))=false:=J1 (by omega)
 rw[Jm hx]at i2
 have i2:true=(boundsS cs).all (fun z=>decide (z≤400000)):=i2
 rw[←i2]at hm
 repeat' first|refine Z1 ?_|refine Z2 ?_|refine Zo ?_|refine J5 ?_|refine Zq ?_|refine Jf ?_|refine J9 ?_|refine J3 ?_|refine Jb ?_|refine Zv ?_|refine Zt ?_
 exact Ji hm.symm
theorem JbB (cs:List Cls) (hw:wL wCls cs≤1048576):PFun X 40 [.agg [.d (.im (cs.map eCls))]] (vb (mokS cs)):=by
 obtain⟨m1,m2⟩:=Jck cs
 have hms:=J6x cs hw
 refine Jj Tryz.func40 rfl (by decide) Tryz.ntmps40 Tryz.results40 (by simp) rfl rfl ?_
 cases hq:mokS cs with
 |true=>
  rw[m1 hq]at hms
  repeat' first|refine Z1 ?_|refine Z2 ?_|refine Z5 ?_|refine Zc (hms) ?_|refine Zo ?_|refine J9 ?_|refine Zt ?_
  rfl
 |false=>
  rw[m2 hq]at hms
  repeat' first|refine Z1 ?_|refine Z2 ?_|refine Z5 ?_|refine Zc (hms) ?_|refine Zo ?_|refine J9 ?_|refine Zt ?_
  rfl
end Go.Pm
/- Part of the proof: Ms11. -/
namespace Go.Pm
attribute [local irreducible] AR Ok inBlock andThen endQ aoper
set_option maxHeartbeats 4000000
open Go.Proofs
theorem J9f {cs:List Cls} (h:mokS cs=true):∀(k:Nat) (c:Cls),cs[k]? = some c→goodC k c:=by
 unfold mokS at h
 split at h
 ·cases h
 ·split at h
  ·cases h
  ·rename_i h2
   intro k c hx
   exact J3Z ((J4t cs).1 (by simpa using h2) k c hx)
def hasS (cs:List Cls) (n:Int):Bool:=mokS cs&&decide (0≤n)&&decide (n<(cs.length:Int))
end Go.Pm
/- Part of the proof: Fu6. -/
namespace Go.Pm
def fuC (c:Cls):Cls:={c with body:=fuseB c.body}
def fuseC (cs:List Cls):List Cls:=if mokS cs=true then cs.map fuC else[]
theorem JbU {cs:List Cls} (h:mokS cs=true):∀(k:Nat) (c:Cls),cs[k]? = some c→classS cs k c=true:=by
 unfold mokS at h
 split at h
 ·cases h
 ·split at h
  ·cases h
  ·rename_i h2
   exact(J4t cs).1 (by simpa using h2)
theorem JbY {cs:List Cls} {c:Cls} {s:Sm} (h:stmS cs c s=true):cnS s:=by
 unfold stmS at h
 by_cases h1:c1 s=true
 ·rw[if_pos h1]at h;cases h
 rw[if_neg h1]at h
 by_cases h2:c2 s=true
 ·rw[if_pos h2]at h;cases h
 rw[if_neg h2]at h
 by_cases h3:c3 s=true
 ·rw[if_pos h3]at h;cases h
 rw[if_neg h3]at h
 by_cases h4:c4 s=true
 ·rw[if_pos h4]at h;cases h
 rw[if_neg h4]at h
 clear h
 have key:s.kind=5∨s.kind=6→s.name=.empty∧s.pos=0∧s.outs=[]∧s.code=[]∧s.args=[]:=by
  intro hk
  have g0:c0 s=false:=by unfold c0;rcases hk with hk|hk<;>simp[hk]
  simp only[c1,g0,Bool.not_false,Bool.true_and,decide_eq_true_eq,Decidable.not_not]at h1
  have k2:decide (s.kind≠2)=true:=J0 (by omega)
  have k3:decide (s.kind≠3)=true:=J0 (by omega)
  have k1:decide (s.kind≠1)=true:=J0 (by omega)
  simp only[c2,k2,k3,Bool.true_and,decide_eq_true_eq,Decidable.not_not]at h2
  simp only[c3,k3,Bool.true_and,Bool.or_eq_true,decide_eq_true_eq,not_or,Decidable.not_not]at h3
  simp only[c4,k1,k2,Bool.true_and,decide_eq_true_eq,Decidable.not_not]at h4
  exact⟨h1,h2,List.eq_nil_of_length_eq_zero (by omega),List.eq_nil_of_length_eq_zero (by omega),List.eq_nil_of_length_eq_zero (by omega)⟩
 refine⟨fun hk=>?_,fun hk=>?_⟩
 ·obtain⟨a,b,c,d,e⟩:=key (.inl hk)
  cases s;simp only[elsM]at *;subst hk a b c d e;rfl
 ·obtain⟨a,b,c,d,e⟩:=key (.inr hk)
  cases s;simp only[endM]at *;subst hk a b c d e;rfl
theorem J6X {cs:List Cls} (h:mokS cs=true) {k:Nat} {c:Cls} (hx:cs[k]? = some c):(∃T,growI c.body=some T)∧(∀s∈c.body,cnS s)∧c.body.length≤30000:=by
 have hc:=JbU h k c hx
 obtain⟨h1,_,_,_,_,_,_,h8,_,_⟩:=(J2m cs k c).1 hc
 refine⟨(J9f h k c hx).1,fun s hs=>JbY (List.all_eq_true.1 h8 s hs),?_⟩
 simp only[headS,Bool.or_eq_false_iff,decide_eq_false_iff_not]at h1
 omega
theorem Jag {l:List Sm} {T:List Br} (h:Spell l T):brsN T≤l.length:=by
 induction h with
 |nil=>simp[brsN]
 |leaf h4 h5 h6 h ih=>simp only[brsN,brN,List.length_cons];omega
 |cond h4 h5 h6 hy hn h ihy ihn ih=>simp only[brsN,brN,List.length_cons,List.length_append];omega
def allB (P:Sm→Prop) (T:List Br):Prop:=∀s∈flL T,P s∨s=elsM∨s=endM
mutual
theorem JaU:∀b:Br,(flB b).length≤3*brN b
 |.nd s y n=>by
  have h1:=J3K y
  have h2:=J3K n
  simp only[flB,brN]
  split<;>simp only[List.length_cons,List.length_append,List.length_nil]<;>omega
theorem J3K:∀l:List Br,(flL l).length≤3*brsN l
 |[]=>by simp[flL,brsN]
 |b::l=>by
  have h1:=JaU b
  have h2:=J3K l
  simp only[flL,brsN,List.length_append];omega
end
mutual
def smB:Br→List Sm
 |.nd s y n=>s::(smL y++smL n)
def smL:List Br→List Sm
 |[]=>[]
 |b::l=>smB b++smL l
end
theorem J7R:∀p q:List Br,smL (p++q)=smL p++smL q
 |[],q=>rfl
 |b::p,q=>by simp only[List.cons_append,smL,J7R p q,List.append_assoc]
theorem J9D (b:Br):smB b=bSm b::(smL (bYs b)++smL (bNs b)):=by cases b;rfl
mutual
theorem Jc9:∀(b:Br) (s:Sm),s∈flB b→s∈smB b∨s=elsM∨s=endM
 |.nd t y n,s,h=>by
  simp only[flB,List.mem_cons]at h
  simp only[smB,List.mem_cons,List.mem_append]
  rcases h with h|h
  ·exact .inl (.inl h)
  ·split at h
   ·simp only[List.mem_append,List.mem_cons,List.not_mem_nil,or_false]at h
    rcases h with h|h|h|h
    ·rcases J60 y s h with q|q
     ·exact .inl (.inr (.inl q))
     ·exact .inr q
    ·exact .inr (.inl h)
    ·rcases J60 n s h with q|q
     ·exact .inl (.inr (.inr q))
     ·exact .inr q
    ·exact .inr (.inr h)
   ·simp at h
theorem J60:∀(l:List Br) (s:Sm),s∈flL l→s∈smL l∨s=elsM∨s=endM
 |[],s,h=>by simp[flL]at h
 |b::l,s,h=>by
  simp only[flL,List.mem_append]at h
  simp only[smL,List.mem_append]
  rcases h with h|h
  ·rcases Jc9 b s h with q|q
   ·exact .inl (.inl q)
   ·exact .inr q
  ·rcases J60 l s h with q|q
   ·exact .inl (.inr q)
   ·exact .inr q
end
theorem J9W {b:Br}:∀{l:List Br},b∈l→∀s∈smB b,s∈smL l
 |x::l,h,s,hs=>by
  simp only[smL,List.mem_append]
  rcases List.mem_cons.1 h with rfl|h
  ·exact .inl hs
  ·exact .inr (J9W h s hs)
theorem J8X {s:Sm}:∀{l:List Br},s∈smL l→∃b∈l,s∈smB b
 |[],h=>by simp[smL]at h
 |b::l,h=>by
  simp only[smL,List.mem_append]at h
  rcases h with h|h
  ·exact⟨b,by simp,h⟩
  ·obtain⟨c,h1,h2⟩:=J8X h;exact⟨c,by simp[h1],h2⟩
theorem Jc8 (b:Br) (m:List Br):∀s∈smL (fmC b m),s∈smL (b::m):=by
 intro s h
 cases m with
 |nil=>exact h
 |cons c m=>
  cases q:prB b c with
  |false=>rw[J3q q]at h;exact h
  |true=>
   rw[J2h q]at h
   simp only[smL,J9D,jnB,bSm,bYs,bNs,J7R,List.mem_append,List.mem_cons]at h ⊢
   grind
theorem Jbu:∀(l:List Br),∀s∈smL (fm l),s∈smL l
 |[],s,h=>h
 |b::l,s,h=>by
  have h1:=Jc8 b (fm l) s h
  simp only[smL,List.mem_append]at h1 ⊢
  rcases h1 with q|q
  ·exact .inl q
  ·exact .inr (Jbu l s q)
theorem J7d:∀(k:Nat) (l:List Br),∀s∈smL (fuF k l),s∈smL l
 |0,l,s,h=>by simp[fuF,smL]at h
 |k+1,l,s,h=>by
  obtain⟨b,hb,hs⟩:=J8X h
  simp only[fuF,List.mem_map]at hb
  obtain⟨c,hc,rfl⟩:=hb
  refine Jbu l s (J9W hc s ?_)
  rw[J9D]at hs ⊢
  simp only[bSm,bYs,bNs,List.mem_cons,List.mem_append]at hs ⊢
  rcases hs with q|q|q
  ·exact .inl q
  ·exact .inr (.inl (J7d k _ s q))
  ·exact .inr (.inr (J7d k _ s q))
theorem J99:∀(k:Nat) (l:List Br),brsN (fuF k l)≤brsN l
 |0,l=>by simp[fuF,brsN]
 |k+1,l=>by
  have h:=JaA l
  simp only[fuF]
  refine Nat.le_trans ?_ h
  generalize fm l=m
  induction m with
  |nil=>exact Nat.le_refl _
  |cons b m ih=>
   have h1:=J99 k (bYs b)
   have h2:=J99 k (bNs b)
   have h3:=J1M b
   simp only[List.map_cons,brsN,brN];omega
theorem Ja0 {l:List Sm} {T:List Br} (h:Spell l T):∀s∈smL T,s∈l:=by
 induction h with
 |nil=>intro s h;simp[smL]at h
 |leaf h4 h5 h6 h ih=>
  intro s hs
  simp only[smL,smB,List.append_nil,List.mem_append,List.mem_singleton]at hs
  rcases hs with q|q
  ·simp[q]
  ·simp[ih s q]
 |cond h4 h5 h6 hy hn h ihy ihn ih=>
  intro s hs
  simp only[smL,smB,List.mem_append,List.mem_cons]at hs
  rcases hs with(q|q|q)|q
  ·simp[q]
  ·simp[ihy s q]
  ·simp[ihn s q]
  ·simp[ih s q]
theorem J4M {cs:List Cls} (h:mokS cs=true) (hw:wL wCls cs≤1048576) {k:Nat} {c:Cls} (hx:cs[k]? = some c):
  ∃T,growI c.body=some T∧Spell c.body T∧(∀s∈c.body,cnS s)∧brsN T≤30000∧fuseB c.body=flL (fuF (brsN T+1) T)∧(fuseB c.body).length≤90000∧brsN (fuF (brsN T+1) T)≤30000∧∀s∈fuseB c.body,wSm s≤1048576:=by
 obtain⟨⟨T,hT⟩,hcn,hlen⟩:=J6X h hx
 have hs:=JL hT
 have hn:=Jag hs
 have e:fuseB c.body=flL (fuF (brsN T+1) T):=by
  simp only[fuseB,hT]
  rw[J6c (brsN T) (brsN T+1) T (by omega) (by omega)]
 have hfn:=J99 (brsN T+1) T
 have hfl:=J3K (fuF (brsN T+1) T)
 refine⟨T,hT,hs,hcn,by omega,e,by rw[e];omega,by omega,fun s hm=>?_⟩
 rw[e]at hm
 rcases J60 _ s hm with q|rfl|rfl
 ·have h1:=Ja0 hs s (J7d _ _ s q)
  have h2:=Jz (w:=wSm) h1
  have h3:=Jz (w:=wCls) (List.mem_of_getElem? hx)
  simp only[wCls,wL]at h3
  simp only[wL]at hw
  omega
 ·decide
 ·decide
end Go.Pm
