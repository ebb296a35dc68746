/- Part of the proof: Im2. -/
import Derived.Test.YtdjanhhljinokaaGreatDoorT18
import Derived.Test.YtdjanhhljinokaaGreatDoorT10
import Derived.Test.YtdjanhhljinokaaGreatDoorT13
set_option linter.unusedVariables false
set_option linter.unusedSimpArgs false
namespace Go.Pm
attribute [local irreducible] AR Ok inBlock andThen endQ aoper
set_option maxHeartbeats 1000000
open Go.Proofs
theorem J34 (n:Int):0≤arityI n∧arityI n≤3:=by unfold arityI;split<;>(try split)<;>(try split)<;>omega
def postI:Int→List Itm→Bool
 |h,[]=>decide (h=1)
 |h,x::l=>if h<arityI x.op then false else postI (h+(1-arityI x.op)) l
theorem J7x (l:List Itm) (hl:l.length<1099511627776):PFun X 162 [.d (.im (l.map eItm))] (vb (postI 0 l)):=by
 refine Jj Tryz.func162 rfl (by decide) Tryz.ntmps162 Tryz.results162 (by simp) rfl rfl ?_
 repeat' first|refine Z1 ?_|refine Z2 ?_|refine Z5 ?_|refine Zd ?_|refine Zo ?_|refine J5 ?_|refine J4 ?_
 refine Jo (ι:=Nat×Int) (fun x=>envL [(2,vb false),(3,vi x.2),(7,.d (.im (l.map eItm))),(8,vi l.length),(9,vi x.1)]) (fun x=>stL []) (fun x=>0≤x.2∧x.2≤x.1∧x.1≤l.length∧postI x.2 (l.drop x.1)=postI 0 l) (fun x=>l.length-x.1) (0,0) (by simp) (Jg rfl ⟨.refl _,.refl _,.refl _,.refl _,.refl _,trivial⟩ trivial) (fun _=>Nat.le_refl 0) ?_
 rintro⟨k,h⟩ ⟨i1,i2,i3,i4⟩
 simp only at i1 i2 i3 i4
 rcases hx:l[k]? with _|x
 ·have hle:=Jk hx
  rw[Jm hx]at i4
  repeat' first|refine Z1 ?_|refine Z2 ?_|refine Z5 ?_|refine Zo ?_|refine J5 ?_|refine Zr (fun hc=>?_) (fun hc=>?_)|refine J4 ?_|refine Jf ?_|refine J7 ?_|refine J9 ?_|refine J3 ?_|refine Jb ?_|refine Zv ?_|refine Zt ?_
  all_goals simp only[decide_eq_true_eq,decide_eq_false_iff_not,Bool.not_eq_true,Bool.not_eq_false,Bool.not_eq_eq_eq_not,Bool.not_true,Bool.not_false]at *
  ·omega
  ·exact Ji i4
 ·have hr:=J34 x.op
  obtain⟨hd,hlt⟩:=Jc hx
  rw[hd]at i4
  simp only[postI]at i4
  repeat' first|refine Z1 ?_|refine Z2 ?_|refine Z3 ?_|refine Z5 ?_|refine Zc (J9e _) ?_|refine Ze ?_|refine Zf ?_|refine Zg ?_|refine Zo ?_|refine J5 ?_|refine Jd ?_|refine Zr (fun hc=>?_) (fun hc=>?_)|refine J4 ?_|refine Jf ?_|refine J7 ?_|refine J9 ?_|refine J3 ?_|refine Jb ?_|refine Zv ?_|refine J8 ?_|refine Ja ?_|refine J6 ?_|refine Zt ?_
  all_goals simp only[decide_eq_true_eq,decide_eq_false_iff_not,Bool.not_eq_true,Bool.not_eq_false,Bool.not_eq_eq_eq_not,Bool.not_true,Bool.not_false]at *
  ·exact Ji (by rw[←i4,if_pos (by assumption)])
  ·rw[if_neg (by assumption)]at i4
   exact⟨(k+1,h+(1-arityI x.op)),⟨by simp only;omega,by simp only;omega,by simp only;omega,i4⟩,by(try simp only);omega,Jh (Nat.zero_le _) ⟨⟨rfl,rfl⟩,⟨rfl,rfl⟩,⟨rfl,rfl⟩,⟨rfl,rfl⟩,⟨rfl,rfl⟩,trivial⟩ trivial⟩
  ·omega
end Go.Pm
/- Part of the proof: Im3. -/
namespace Go.Pm
attribute [local irreducible] AR Ok inBlock andThen endQ aoper
set_option maxHeartbeats 1000000
open Go.Proofs
def tailI (c:UInt8):Bool:=letterI c||digitI c||decide ((c.toNat:Int)=95)
def nameI (s:ByteArray):Bool:=
 match bs s with
 |[]=>false
 |c::r=>
  if 40<(s.size:Int)then false
  else if(c.toNat:Int)=36 then
   match r with
   |[]=>false
   |d::_=>if 10<(s.size:Int)∨(d.toNat:Int)=48 then false else r.all digitI
  else letterI c&&!hasWord kwS s&&r.all tailI
theorem J9S {s:ByteArray} {c:UInt8} {r:List UInt8} (h:bs s=c::r):decide (s=⟨#[]⟩)=false:=by
 rw[decide_eq_false_iff_not]
 intro e
 rw[e]at h
 cases h
theorem J0v (s:ByteArray):PFun X 114 [vs s] (vb (nameI s)):=by
 have hsz:=J04 s
 refine Jj Tryz.func114 rfl (by decide) Tryz.ntmps114 Tryz.results114 (by simp) rfl rfl ?_
 rcases hb:bs s with _|⟨c,r⟩
 ·have e:decide (s=⟨#[]⟩)=true:=J0 (Jc6 hb)
  repeat' first|refine Z1 ?_|refine Z2 ?_|refine Z5 ?_|refine Z9 ?_|refine Zl ?_|refine Zo ?_|refine J5 ?_|refine Zp ?_|refine J9 ?_|refine J8 ?_|refine Zt ?_
  exact Ji (by simp[nameI,hb])
 ·have h0:(bs s)[0]? = some c:=by rw[hb];rfl
  have e:=J9S hb
  rw[hb]at hsz
  simp only[List.length_cons]at hsz
  by_cases hbig:40<(s.size:Int)
  ·have e2:decide (40<(s.size:Int))=true:=J0 hbig
   repeat' first|refine Z1 ?_|refine Z2 ?_|refine Z5 ?_|refine Z7 ?_|refine Zh ?_|refine Zi ?_|refine Zm ?_|refine Zo ?_|refine J5 ?_|refine Zp ?_|refine J9 ?_|refine J8 ?_|refine Zt ?_
   exact Ji (by simp[nameI,hb,hbig])
  have e2:decide (40<(s.size:Int))=false:=J1 hbig
  by_cases h36:(c.toNat:Int)=36
  ·have e3:decide ((c.toNat:Int)=36)=true:=J0 h36
   rcases r with _|⟨d,r⟩
   ·have e4:decide ((s.size:Int)<2)=true:=J0 (by simp at hsz;omega)
    repeat' first|refine Z1 ?_|refine Z2 ?_|refine Z5 ?_|refine Z7 ?_|refine Z9 ?_|refine J1a rfl rfl h0 rfl rfl rfl ?_|refine Zh ?_|refine Zi ?_|refine Zl ?_|refine Zm ?_|refine Zo ?_|refine J5 ?_|refine Zp ?_|refine Zq ?_|refine J7 ?_|refine J9 ?_|refine J3 ?_|refine J8 ?_|refine Zt ?_
    exact Ji (by simp[nameI,hb,hbig,h36])
   ·have h1:(bs s)[1]? = some d:=by rw[hb];rfl
    have e4:decide ((s.size:Int)<2)=false:=J1 (by simp at hsz;omega)
    by_cases h10:10<(s.size:Int)∨(d.toNat:Int)=48
    ·have hn:nameI s=false:=by simp[nameI,hb,hbig,h36,h10]
     repeat' first|refine Z1 ?_|refine Z2 ?_|refine Z5 ?_|refine Z7 ?_|refine Z9 ?_|refine Zb (fun hc=>?_) (fun hc=>?_)|refine J1a rfl rfl h0 rfl rfl rfl ?_|refine J1a rfl rfl h1 rfl rfl rfl ?_|refine Zh ?_|refine Zi ?_|refine Zl ?_|refine Zm ?_|refine Zo ?_|refine J5 ?_|refine Zp ?_|refine Zq ?_|refine Zr (fun hc=>?_) (fun hc=>?_)|refine J4 ?_|refine J7 ?_|refine J9 ?_|refine J3 ?_|refine J8 ?_|refine Zt ?_
     all_goals simp only[decide_eq_true_eq,decide_eq_false_iff_not,Bool.not_eq_true,Bool.not_eq_false,Bool.not_eq_eq_eq_not,Bool.not_true,Bool.not_false]at *
     ·exact Ji hn.symm
     ·omega
     ·exact Ji hn.symm
    ·have e5:decide (10<(s.size:Int))=false:=J1 (by omega)
     have e6:decide ((d.toNat:Int)=48)=false:=J1 (by omega)
     have hn:nameI s=(d::r).all digitI:=by simp only[nameI,hb,hbig,h36,h10,if_false,if_true]
     repeat' first|refine Z1 ?_|refine Z2 ?_|refine Z5 ?_|refine Z7 ?_|refine J1a rfl rfl h0 rfl rfl rfl ?_|refine J1a rfl rfl h1 rfl rfl rfl ?_|refine Zh ?_|refine Zi ?_|refine Zm ?_|refine Zo ?_|refine J5 ?_|refine Zp ?_|refine Zq ?_|refine J4 ?_|refine J7 ?_|refine J3 ?_
     refine Jo (ι:=Nat) (fun x=>envL [(0,vs s),(2,vb false),(3,vi x)]) (fun x=>stL []) (fun x=>1≤x∧x≤s.size∧((bs s).drop x).all digitI=nameI s) (fun x=>s.size-x) 1 (⟨by omega,by omega,by rw[hn,hb];simp⟩) (Jg rfl ⟨.refl _,.refl _,.refl _,trivial⟩ trivial) (fun _=>Nat.le_refl 0) ?_
     rintro k ⟨i1,i2,i3⟩
     rcases hx:(bs s)[k]? with _|x
     ·have hle:=Jk hx
      rw[J04]at hle
      have ek:decide ((k:Int)<(s.size:Int))=false:=J1 (by omega)
      rw[Jm hx]at i3
      repeat' first|refine Z1 ?_|refine Z2 ?_|refine Zo ?_|refine J5 ?_|refine Zq ?_|refine Jf ?_|refine J9 ?_|refine J3 ?_|refine Jb ?_|refine Zv ?_|refine J8 ?_|refine Zt ?_
      exact Ji i3
     ·obtain⟨hd,hlt⟩:=Jc hx
      rw[J04]at hlt
      have ek:decide ((k:Int)<(s.size:Int))=true:=J0 (by omega)
      rw[hd,List.all_cons]at i3
      cases hdx:digitI x with
      |false=>
       have ex:(!digitI x)=true:=by rw[hdx];rfl
       repeat' first|refine Z1 ?_|refine Z2 ?_|refine Z5 ?_|refine J1a rfl rfl hx rfl rfl rfl ?_|refine Zc (J2U _) ?_|refine Zo ?_|refine J5 ?_|refine Zp ?_|refine J4 ?_|refine J7 ?_|refine J9 ?_|refine J3 ?_|refine J8 ?_|refine Ja ?_|refine Zt ?_
       exact Ji (by rw[←i3,hdx];rfl)
      |true=>
       have ex:(!digitI x)=false:=by rw[hdx];rfl
       repeat' first|refine Z1 ?_|refine Z2 ?_|refine Z5 ?_|refine J1a rfl rfl hx rfl rfl rfl ?_|refine Zc (J2U _) ?_|refine Zf ?_|refine Zo ?_|refine J5 ?_|refine Jd ?_|refine Zp ?_|refine Zq ?_|refine J4 ?_|refine J7 ?_|refine J3 ?_|refine J6 ?_
       rw[hdx,Bool.true_and]at i3
       exact⟨k+1,⟨by omega,by omega,i3⟩,by(try simp only);omega,Jh (Nat.zero_le _) ⟨⟨rfl,rfl⟩,⟨rfl,rfl⟩,⟨rfl,rfl⟩,trivial⟩ trivial⟩
  ·have e3:decide ((c.toNat:Int)=36)=false:=J1 h36
   cases hl:letterI c with
   |false=>
    have el:(!letterI c)=true:=by rw[hl];rfl
    repeat' first|refine Z1 ?_|refine Z2 ?_|refine Z5 ?_|refine Z7 ?_|refine Z9 ?_|refine J1a rfl rfl h0 rfl rfl rfl ?_|refine Zc (J1u _) ?_|refine Zh ?_|refine Zi ?_|refine Zl ?_|refine Zm ?_|refine Zo ?_|refine J5 ?_|refine Zp ?_|refine Zq ?_|refine J7 ?_|refine J9 ?_|refine J3 ?_|refine J8 ?_|refine Zt ?_
    exact Ji (by simp[nameI,hb,hbig,h36,hl])
   |true=>
    have el:(!letterI c)=false:=by rw[hl];rfl
    cases hw:hasWord kwS s with
    |true=>
     repeat' first|refine Z1 ?_|refine Z2 ?_|refine Z5 ?_|refine Z7 ?_|refine J1a rfl rfl h0 rfl rfl rfl ?_|refine Zc (J1u _) ?_|refine J88 rfl rfl rfl rfl rfl rfl rfl rfl ?_|refine Zh ?_|refine Zi ?_|refine Zm ?_|refine Zo ?_|refine J5 ?_|refine Zp ?_|refine Zq ?_|refine J7 ?_|refine J9 ?_|refine J3 ?_|refine J8 ?_|refine Zt ?_
     exact Ji (by simp[nameI,hb,hbig,h36,hl,hw])
    |false=>
     have hn:nameI s=r.all tailI:=by simp[nameI,hb,hbig,h36,hl,hw]
     repeat' first|refine Z1 ?_|refine Z2 ?_|refine Z5 ?_|refine Z7 ?_|refine J1a rfl rfl h0 rfl rfl rfl ?_|refine Zc (J1u _) ?_|refine J88 rfl rfl rfl rfl rfl rfl rfl rfl ?_|refine Zh ?_|refine Zi ?_|refine Zm ?_|refine Zo ?_|refine J5 ?_|refine Zq ?_|refine J4 ?_|refine J7 ?_|refine J3 ?_
     refine Jo (ι:=Nat) (fun x=>envL [(0,vs s),(2,vb false),(4,vi x)]) (fun x=>stL []) (fun x=>1≤x∧x≤s.size∧((bs s).drop x).all tailI=nameI s) (fun x=>s.size-x) 1 (⟨by omega,by omega,by rw[hn,hb];simp⟩) (Jg rfl ⟨.refl _,.refl _,.refl _,trivial⟩ trivial) (fun _=>Nat.le_refl 0) ?_
     rintro k ⟨i1,i2,i3⟩
     rcases hx:(bs s)[k]? with _|x
     ·have hle:=Jk hx
      rw[J04]at hle
      have ek:decide ((k:Int)<(s.size:Int))=false:=J1 (by omega)
      rw[Jm hx]at i3
      repeat' first|refine Z1 ?_|refine Z2 ?_|refine Zo ?_|refine J5 ?_|refine Zq ?_|refine Jf ?_|refine J9 ?_|refine J3 ?_|refine Jb ?_|refine Zv ?_|refine Zt ?_
      exact Ji i3
     ·obtain⟨hd,hlt⟩:=Jc hx
      rw[J04]at hlt
      have ek:decide ((k:Int)<(s.size:Int))=true:=J0 (by omega)
      rw[hd,List.all_cons]at i3
      cases htx:tailI x with
      |false=>
       have htx':=htx
       simp only[tailI,Bool.or_eq_false_iff,decide_eq_false_iff_not]at htx'
       have ex:(!letterI x)=true:=by rw[htx'.1.1];rfl
       have ex2:(!digitI x)=true:=by rw[htx'.1.2];rfl
       have ex3:decide ((x.toNat:Int)≠95)=true:=J0 htx'.2
       repeat' first|refine Z1 ?_|refine Z2 ?_|refine Z5 ?_|refine Z7 ?_|refine J1a rfl rfl hx rfl rfl rfl ?_|refine Zc (J2U _) ?_|refine Zc (J1u _) ?_|refine Zh ?_|refine Zi ?_|refine Zl ?_|refine Zo ?_|refine J5 ?_|refine Zp ?_|refine J4 ?_|refine J7 ?_|refine J9 ?_|refine J3 ?_|refine J8 ?_|refine Ja ?_|refine Zt ?_
       exact Ji (by rw[←i3,htx];rfl)
      |true=>
       rw[htx,Bool.true_and]at i3
       repeat' first|refine Z1 ?_|refine Z2 ?_|refine Z5 ?_|refine Z7 ?_|refine Z8 ?_|refine Za (fun hc=>?_) (fun hc=>?_)|refine J1a rfl rfl hx rfl rfl rfl ?_|refine Zc (J2U _) ?_|refine Zc (J1u _) ?_|refine Zf ?_|refine Zh ?_|refine Zi ?_|refine Zl ?_|refine Zm ?_|refine Zo ?_|refine J5 ?_|refine Jd ?_|refine Zp ?_|refine Zq ?_|refine Zr (fun hc=>?_) (fun hc=>?_)|refine J4 ?_|refine J7 ?_|refine J9 ?_|refine J3 ?_|refine J8 ?_|refine Ja ?_|refine J6 ?_|refine Zt ?_
       all_goals first
        |(exact⟨k+1,⟨by omega,by omega,i3⟩,by(try simp only);omega,Jh (Nat.zero_le _) ⟨⟨rfl,rfl⟩,⟨rfl,rfl⟩,⟨rfl,rfl⟩,trivial⟩ trivial⟩)
        |(exfalso;simp_all [tailI])
end Go.Pm
/- Part of the proof: Im4. -/
namespace Go.Pm
attribute [local irreducible] AR Ok inBlock andThen endQ aoper
set_option maxHeartbeats 1000000
open Go.Proofs
def nmI (x:Itm):Bool:=if x.op=3∨x.op=23∨x.op=24 then nameI x.name else decide (x.name=⟨#[]⟩)
def itemI (x:Itm):Bool:=
 if x.op<1∨24<x.op then false
 else if x.op=1 then(if x.val<0∨2147483647<x.val then false else nmI x)
 else if x.op=2∨x.op=22∨x.op=23 then(if x.val≠0∧x.val≠1 then false else nmI x)
 else if x.op=21 then(if x.val < -2147483647∨2147483647<x.val then false else nmI x)
 else if x.val≠0 then false else nmI x
theorem J3G (x:Itm):PFun X 161 [.agg ((eItm x).map .d)] (vb (itemI x)):=by
 refine Jj Tryz.func161 rfl (by decide) Tryz.ntmps161 Tryz.results161 (by simp) rfl rfl ?_
 repeat' first|refine Z1 ?_|refine Z2 ?_|refine Z5 ?_|refine Z7 ?_|refine Z8 ?_|refine Z9 ?_|refine Za (fun hc=>?_) (fun hc=>?_)|refine Zb (fun hc=>?_) (fun hc=>?_)|refine Zc (J0v _) ?_|refine Zh ?_|refine Zi ?_|refine Zl ?_|refine Zm ?_|refine Zo ?_|refine J5 ?_|refine Jd ?_|refine Zp ?_|refine Zq ?_|refine Zr (fun hc=>?_) (fun hc=>?_)|refine J4 ?_|refine J7 ?_|refine J9 ?_|refine J3 ?_|refine J8 ?_|refine Ja ?_|refine J6 ?_|refine Zt ?_
 all_goals simp only[decide_eq_true_eq,decide_eq_false_iff_not,Bool.not_eq_true,Bool.not_eq_false,Bool.not_eq_eq_eq_not,Bool.not_true,Bool.not_false]at *
 all_goals (refine Ji ?_;unfold itemI nmI;grind)
end Go.Pm
/- Part of the proof: Mc1. -/
namespace Go.Pm
attribute [local irreducible] AR Ok inBlock andThen endQ aoper
set_option maxHeartbeats 1000000
open Go.Proofs
def valI (v:Int):Bool:=decide (-2147483648≤v)&&decide (v≤2147483647)
theorem J9E (v:Int):PFun X 31 [vi v] (vb (valI v)):=by
 refine Jj Tryz.func31 rfl (by decide) Tryz.ntmps31 Tryz.results31 (by simp) rfl rfl ?_
 repeat' first|refine Z1 ?_|refine Z2 ?_|refine Z5 ?_|refine Z7 ?_|refine Z8 ?_|refine Za (fun hc=>?_) (fun hc=>?_)|refine Zh ?_|refine Zi ?_|refine Zl ?_|refine Zm ?_|refine Zo ?_|refine J9 ?_|refine Zt ?_
 all_goals simp[valI, *]
def ciI (F:List (ByteArray×Int)) (n:Int) (x:Itm):Bool:=
 if x.op=25 then(if x.val<0∨n≤x.val∨x.name≠⟨#[]⟩then false else true)
 else if x.op<1∨20<x.op∨itemI x=false then false
 else if x.op=3 then(sfind F x.name).isSome else true
def codeI (F:List (ByteArray×Int)) (n:Int) (l:List Itm):Bool:=if(l.length:Int)<1∨6000<(l.length:Int)then false else l.all (ciI F n)&&postI 0 l
theorem J4W {σ':St} {o:AO} (h:σ'.obj 0=some o):∀j,j<[some o].length→σ'.obj j=(stL [some o]).obj j:=by
 intro j hj
 have:j=0:=by simp at hj;omega
 subst this;exact h
theorem JbM (F:List (ByteArray×Int)) (n:Int) (l:List Itm) (hl:l.length≤1048576):AFun X 117 [.d (.im (l.map eItm)),.mp 0,vi n] (stL [some (.map .string (smap vi F))]) fun E σ'=>E=.ret (vb (codeI F n l))∧∀j,j<[some (AO.map .string (smap vi F))].length→σ'.obj j=(stL [some (.map .string (smap vi F))]).obj j:=by
 refine Jx Tryz.func117 rfl (by decide) Tryz.ntmps117 Tryz.results117 (by simp) ?_
 by_cases hbig:(l.length:Int)<1∨6000<(l.length:Int)
 ·have hn:codeI F n l=false:=by simp[codeI,hbig]
  by_cases h1:(l.length:Int)<1
  ·have e1:decide ((l.length:Int)<1)=true:=J0 h1
   repeat' first|refine Z1 ?_|refine Z2 ?_|refine Z5 ?_|refine Z9 ?_|refine Zd ?_|refine Zl ?_|refine Zo ?_|refine J5 ?_|refine Zp ?_|refine J9 ?_|refine J8 ?_|refine Zt ?_
   exact⟨Ji hn.symm,J4W rfl⟩
  ·have e1:decide ((l.length:Int)<1)=false:=J1 h1
   have e2:decide (6000<(l.length:Int))=true:=J0 (by omega)
   repeat' first|refine Z1 ?_|refine Z2 ?_|refine Z5 ?_|refine Z7 ?_|refine Zd ?_|refine Zh ?_|refine Zi ?_|refine Zm ?_|refine Zo ?_|refine J5 ?_|refine Zp ?_|refine J9 ?_|refine J8 ?_|refine Zt ?_
   exact⟨Ji hn.symm,J4W rfl⟩
 have e1:decide ((l.length:Int)<1)=false:=J1 (by omega)
 have e2:decide (6000<(l.length:Int))=false:=J1 (by omega)
 have hn:codeI F n l=(l.all (ciI F n)&&postI 0 l):=by simp only[codeI,hbig,if_false]
 repeat' first|refine Z1 ?_|refine Z2 ?_|refine Z5 ?_|refine Z7 ?_|refine Zd ?_|refine Zh ?_|refine Zi ?_|refine Zm ?_|refine Zo ?_|refine J5 ?_|refine Zq ?_|refine J4 ?_|refine J7 ?_|refine J3 ?_
 refine Jo (ι:=Nat) (fun x=>envL [(0,.d (.im (l.map eItm))),(1,.mp 0),(2,vi n),(19,.d (.im (l.map eItm))),(20,vi l.length),(21,vi x)]) (fun x=>stL [some (.map .string (smap vi F))]) (fun x=>x≤l.length∧((l.drop x).all (ciI F n)&&postI 0 l)=codeI F n l) (fun x=>l.length-x) 0 (⟨Nat.zero_le _,by rw[hn];simp⟩) (Jg rfl ⟨.refl _,.refl _,.refl _,.refl _,.refl _,.refl _,trivial⟩ ⟨⟨rfl,_,rfl,rfl,rfl⟩,trivial⟩) (fun _=>Nat.le_refl 1) ?_
 rintro k ⟨i1,i2⟩
 rcases hx:l[k]? with _|x
 ·have hle:=Jk hx
  have ek:decide ((k:Int)<(l.length:Int))=false:=J1 (by omega)
  rw[Jm hx]at i2
  repeat' first|refine Z1 ?_|refine Z2 ?_|refine Z5 ?_|refine Zc (J7x l (by omega)) ?_|refine Zo ?_|refine J5 ?_|refine Zq ?_|refine Jf ?_|refine J9 ?_|refine J3 ?_|refine Jb ?_|refine Zv ?_|refine Zt ?_
  exact⟨Ji i2,J4W rfl⟩
 obtain⟨hd,hlt⟩:=Jc hx
 have ek:decide ((k:Int)<(l.length:Int))=true:=J0 (by omega)
 rw[hd,List.all_cons]at i2
 have fin:ciI F n x=false→false=codeI F n l:=fun h=>by rw[←i2,h];rfl
 have go:ciI F n x=true→((l.drop (k+1)).all (ciI F n)&&postI 0 l)=codeI F n l:=fun h=>by rw[←i2,h];rfl
 by_cases o25:x.op=25
 ·have d1:decide (x.op=25)=true:=J0 o25
  by_cases hb:x.val<0∨n≤x.val∨x.name≠⟨#[]⟩
  ·have hf:=fin (by simp only[ciI,o25,if_true,hb])
   by_cases h1:x.val<0
   ·have d2:decide (x.val<0)=true:=J0 h1
    repeat' first|refine Z1 ?_|refine Z2 ?_|refine Z5 ?_|refine Z9 ?_|refine Ze ?_|refine Zl ?_|refine Zo ?_|refine J5 ?_|refine Zp ?_|refine J4 ?_|refine J7 ?_|refine J9 ?_|refine J3 ?_|refine J8 ?_|refine Ja ?_|refine Zt ?_
    exact⟨Ji hf,J4W rfl⟩
   have d2:decide (x.val<0)=false:=J1 h1
   by_cases h2:n≤x.val
   ·have d3:decide (n≤x.val)=true:=J0 h2
    repeat' first|refine Z1 ?_|refine Z2 ?_|refine Z5 ?_|refine Z7 ?_|refine Z9 ?_|refine Ze ?_|refine Zh ?_|refine Zi ?_|refine Zl ?_|refine Zm ?_|refine Zo ?_|refine J5 ?_|refine Zp ?_|refine J4 ?_|refine J7 ?_|refine J9 ?_|refine J3 ?_|refine J8 ?_|refine Ja ?_|refine Zt ?_
    exact⟨Ji hf,J4W rfl⟩
   have d3:decide (n≤x.val)=false:=J1 h2
   have d4:decide (x.name≠⟨#[]⟩)=true:=J0 (by rcases hb with h|h|h;exact absurd h h1;exact absurd h h2;exact h)
   repeat' first|refine Z1 ?_|refine Z2 ?_|refine Z5 ?_|refine Z7 ?_|refine Ze ?_|refine Zh ?_|refine Zi ?_|refine Zm ?_|refine Zo ?_|refine J5 ?_|refine Zp ?_|refine J4 ?_|refine J7 ?_|refine J9 ?_|refine J3 ?_|refine J8 ?_|refine Ja ?_|refine Zt ?_
   exact⟨Ji hf,J4W rfl⟩
  ·have d2:decide (x.val<0)=false:=J1 (fun h=>hb (.inl h))
   have d3:decide (n≤x.val)=false:=J1 (fun h=>hb (.inr (.inl h)))
   have d4:decide (x.name≠⟨#[]⟩)=false:=J1 (fun h=>hb (.inr (.inr h)))
   have hg:=go (by simp only[ciI,o25,if_true,hb,if_false])
   repeat' first|refine Z1 ?_|refine Z2 ?_|refine Z5 ?_|refine Z7 ?_|refine Ze ?_|refine Zf ?_|refine Zh ?_|refine Zi ?_|refine Zm ?_|refine Zo ?_|refine J5 ?_|refine Jd ?_|refine Zp ?_|refine Zq ?_|refine J4 ?_|refine J7 ?_|refine J3 ?_|refine J6 ?_
   exact⟨k+1,⟨hlt,hg⟩,by(try simp only);omega,Jh (Nat.le_of_ble_eq_true rfl) ⟨⟨rfl,rfl⟩,⟨rfl,rfl⟩,⟨rfl,rfl⟩,⟨rfl,rfl⟩,⟨rfl,rfl⟩,⟨rfl,rfl⟩,trivial⟩ ⟨⟨rfl,Jp (fun _=>rfl) _⟩,trivial⟩⟩
 have d1:decide (x.op=25)=false:=J1 o25
 by_cases hb:x.op<1∨20<x.op∨itemI x=false
 ·have hf:=fin (by simp only[ciI,o25,if_false,hb,if_true])
  by_cases h1:x.op<1
  ·have d2:decide (x.op<1)=true:=J0 h1
   repeat' first|refine Z1 ?_|refine Z2 ?_|refine Z5 ?_|refine Z9 ?_|refine Ze ?_|refine Zl ?_|refine Zo ?_|refine J5 ?_|refine Zp ?_|refine Zq ?_|refine J4 ?_|refine J7 ?_|refine J9 ?_|refine J3 ?_|refine J8 ?_|refine Ja ?_|refine Zt ?_
   exact⟨Ji hf,J4W rfl⟩
  have d2:decide (x.op<1)=false:=J1 h1
  by_cases h2:20<x.op
  ·have d3:decide (20<x.op)=true:=J0 h2
   repeat' first|refine Z1 ?_|refine Z2 ?_|refine Z5 ?_|refine Z7 ?_|refine Z9 ?_|refine Ze ?_|refine Zh ?_|refine Zi ?_|refine Zl ?_|refine Zm ?_|refine Zo ?_|refine J5 ?_|refine Zp ?_|refine Zq ?_|refine J4 ?_|refine J7 ?_|refine J9 ?_|refine J3 ?_|refine J8 ?_|refine Ja ?_|refine Zt ?_
   exact⟨Ji hf,J4W rfl⟩
  have d3:decide (20<x.op)=false:=J1 h2
  have d4:(!itemI x)=true:=by rcases hb with h|h|h;exact absurd h h1;exact absurd h h2;rw[h];rfl
  repeat' first|refine Z1 ?_|refine Z2 ?_|refine Z5 ?_|refine Z7 ?_|refine Zc (J3G x) ?_|refine Ze ?_|refine Zh ?_|refine Zi ?_|refine Zm ?_|refine Zo ?_|refine J5 ?_|refine Zp ?_|refine Zq ?_|refine J4 ?_|refine J7 ?_|refine J9 ?_|refine J3 ?_|refine J8 ?_|refine Ja ?_|refine Zt ?_
  exact⟨Ji hf,J4W rfl⟩
 have d2:decide (x.op<1)=false:=J1 (fun h=>hb (.inl h))
 have d3:decide (20<x.op)=false:=J1 (fun h=>hb (.inr (.inl h)))
 have d4:(!itemI x)=false:=by cases hq:itemI x with|true=>rfl|false=>exact absurd (.inr (.inr hq)) hb
 by_cases o3:x.op=3
 ·have d5:decide (x.op=3)=true:=J0 o3
  cases hs:(sfind F x.name).isSome with
  |false=>
   have d6:(!(sfind F x.name).isSome)=true:=by rw[hs];rfl
   have hf:=fin (by simp only[ciI,o25,hb,if_false];rw[if_pos o3];exact hs)
   repeat' first|refine Z1 ?_|refine Z2 ?_|refine Z5 ?_|refine Z7 ?_|refine Zc (J3G x) ?_|refine Ya (e:=vi) ?_|refine Ze ?_|refine Zh ?_|refine Zi ?_|refine Zm ?_|refine Zo ?_|refine J5 ?_|refine Zp ?_|refine Zq ?_|refine J4 ?_|refine J7 ?_|refine J9 ?_|refine J3 ?_|refine J8 ?_|refine Ja ?_|refine Zt ?_
   exact⟨Ji hf,J4W rfl⟩
  |true=>
   have d6:(!(sfind F x.name).isSome)=false:=by rw[hs];rfl
   have hg:=go (by simp only[ciI,o25,hb,if_false];rw[if_pos o3];exact hs)
   repeat' first|refine Z1 ?_|refine Z2 ?_|refine Z5 ?_|refine Z7 ?_|refine Zc (J3G x) ?_|refine Ya (e:=vi) ?_|refine Ze ?_|refine Zf ?_|refine Zh ?_|refine Zi ?_|refine Zm ?_|refine Zo ?_|refine J5 ?_|refine Jd ?_|refine Zp ?_|refine Zq ?_|refine J4 ?_|refine J7 ?_|refine J3 ?_|refine J6 ?_
   exact⟨k+1,⟨hlt,hg⟩,by(try simp only);omega,Jh (Nat.le_of_ble_eq_true rfl) ⟨⟨rfl,rfl⟩,⟨rfl,rfl⟩,⟨rfl,rfl⟩,⟨rfl,rfl⟩,⟨rfl,rfl⟩,⟨rfl,rfl⟩,trivial⟩ ⟨⟨rfl,Jp (fun _=>rfl) _⟩,trivial⟩⟩
 ·have d5:decide (x.op=3)=false:=J1 o3
  have hg:=go (by simp only[ciI,o25,hb,if_false,o3])
  repeat' first|refine Z1 ?_|refine Z2 ?_|refine Z5 ?_|refine Z7 ?_|refine Zc (J3G x) ?_|refine Ze ?_|refine Zf ?_|refine Zh ?_|refine Zi ?_|refine Zm ?_|refine Zo ?_|refine J5 ?_|refine Jd ?_|refine Zp ?_|refine Zq ?_|refine J4 ?_|refine J7 ?_|refine J3 ?_|refine J6 ?_
  exact⟨k+1,⟨hlt,hg⟩,by(try simp only);omega,Jh (Nat.le_of_ble_eq_true rfl) ⟨⟨rfl,rfl⟩,⟨rfl,rfl⟩,⟨rfl,rfl⟩,⟨rfl,rfl⟩,⟨rfl,rfl⟩,⟨rfl,rfl⟩,trivial⟩ ⟨⟨rfl,Jp (fun _=>rfl) _⟩,trivial⟩⟩
theorem J26 (F:List (ByteArray×Int)) (n:Int) (l:List Itm) (hl:l.length≤1048576) {σ:St} {i:Nat} (hi:i<σ.next) (ho:σ.obj i=some (.map .string (smap vi F))):AFun X 117 [.d (.im (l.map eItm)),.mp i,vi n] σ fun E σ'=>E=.ret (vb (codeI F n l))∧σ'=σ:=by
 have one:∀(j:Nat) (o:AO),([some (AO.map .string (smap vi F))][j]?).join=some o→j=0∧o=.map .string (smap vi F):=by
  intro j o h
  match j,h with
  |0,h=>exact⟨rfl,by simpa using h.symm⟩
  |j+1,h=>simp at h
 refine AFun.ro (JbM F n l hl) (fun j o h=>?_) rfl rfl (fun _=>i) (fun a b o o' h h' _=>by rw[(one a o h).1,(one b o' h').1]) (fun j _=>hi) (fun j o h=>?_)
 ·obtain⟨rfl,rfl⟩:=one j o h
  exact Jp (fun _=>rfl) F
 ·obtain⟨rfl,rfl⟩:=one j o h
  rw[ho];exact JB F (fun _=>rfl)
end Go.Pm
/- Part of the proof: Mc2. -/
namespace Go.Pm
attribute [local irreducible] AR Ok inBlock andThen endQ aoper
set_option maxHeartbeats 1000000
open Go.Proofs
def callC (B I:List Int) (p:Int):Int:=(B[((I[p.toNat]?).getD 0).toNat]?).getD 0
mutual
def costB (B I:List Int):Br→Int
 |.nd s y n=>1+(if s.kind=3 then callC B I s.pos else if s.kind=4 then max (costL B I y) (costL B I n)else 0)
def costL (B I:List Int):List Br→Int
 |[]=>0
 |b::l=>costB B I b+costL B I l
end
mutual
def brN:Br→Nat
 |.nd _ y n=>1+brsN y+brsN n
def brsN:List Br→Nat
 |[]=>0
 |b::l=>brN b+brsN l
end
def goodS (B I:List Int) (s:Sm):Prop:=s.kind=3→0≤s.pos∧∃g b,I[s.pos.toNat]? = some g∧0≤g∧B[g.toNat]? = some b
mutual
def goodB (B I:List Int):Br→Prop
 |.nd s y n=>goodS B I s∧goodL B I y∧goodL B I n
def goodL (B I:List Int):List Br→Prop
 |[]=>True
 |b::l=>goodB B I b∧goodL B I l
end
def bdB (B:List Int):Prop:=∀b∈B,0≤b∧b≤400000
theorem Jab {B I:List Int} (hB:bdB B) (p:Int):0≤callC B I p∧callC B I p≤400000:=by
 unfold callC
 cases hq:B[((I[p.toNat]?).getD 0).toNat]? with
 |none=>simp
 |some b=>exact hB b (List.mem_of_getElem? hq)
mutual
theorem J79 {B I:List Int} (hB:bdB B):∀b:Br,0≤costB B I b∧costB B I b≤400001*(brN b:Int)
 |.nd s y n=>by
  have h1:=J1n (I:=I) hB y
  have h2:=J1n (I:=I) hB n
  have h3:=Jab (I:=I) hB s.pos
  simp only[costB,brN]
  split
  ·omega
  ·split
   ·omega
   ·omega
theorem J1n {B I:List Int} (hB:bdB B):∀l:List Br,0≤costL B I l∧costL B I l≤400001*(brsN l:Int)
 |[]=>by simp[costL,brsN]
 |b::l=>by
  have h1:=J79 (I:=I) hB b
  have h2:=J1n (I:=I) hB l
  simp only[costL,brsN]
  omega
end
theorem J1t {b:Br}:∀{l:List Br},b∈l→brN b≤brsN l
 |c::l,h=>by
  simp only[brsN]
  rcases List.mem_cons.1 h with rfl|h
  ·omega
  ·have:=J1t h;omega
theorem J5a {B I:List Int} {b:Br}:∀{l:List Br},b∈l→goodL B I l→goodB B I b
 |c::l,h,hg=>by
  simp only[goodL]at hg
  rcases List.mem_cons.1 h with rfl|h
  ·exact hg.1
  ·exact J5a h hg.2
theorem J0j:∀l:List Br,l.length≤brsN l
 |[]=>Nat.le_refl _
 |b::l=>by
  have:=J0j l
  have:1≤brN b:=by cases b;simp only[brN];omega
  simp only[brsN,List.length_cons];omega
def coO (B:List Int) (z:Nat) (c:Cls):List (Option AO):=
 [none,none,none,some (.row 2 3 1 (im2 eNum B)),some (.var [.sl 0 1 0 z,.sl 3 2 0 B.length]),some (.var [.ref 4 0]),some (.var ((eCls c).map .d)),some (.var [.fn 118 [.ref 5 0,.ref 6 0,.ref 7 0]])]
theorem J3d {B:List Int} {z:Nat} {c:Cls} {j:Nat} {o:AO} (h:((coO B z c)[j]?).join=some o):j<8∧o.low 8:=by
 unfold coO at h
 match j,h with
 |0,h=>cases h
 |1,h=>cases h
 |2,h=>cases h
 |3,h=>cases h;exact⟨by omega,Je rfl,Jl _ _ _⟩
 |4,h=>cases h;exact⟨by omega,rfl⟩
 |5,h=>cases h;exact⟨by omega,rfl⟩
 |6,h=>cases h;exact⟨by omega,rfl⟩
 |7,h=>cases h;exact⟨by omega,rfl⟩
 |j+8,h=>simp at h
def coT (j:Nat):Prop:=j=3∨j=4∨j=5∨j=6∨j=7
theorem Jcg {B:List Int} {z:Nat} {c:Cls} {j:Nat} {o:AO} (h:((coO B z c)[j]?).join=some o):coT j:=by
 have h8:=(J3d h).1
 unfold coO at h
 match j,h with
 |0,h=>cases h
 |1,h=>cases h
 |2,h=>cases h
 |3,h=>exact .inl rfl
 |4,h=>exact .inr (.inl rfl)
 |5,h=>exact .inr (.inr (.inl rfl))
 |6,h=>exact .inr (.inr (.inr (.inl rfl)))
 |7,h=>exact .inr (.inr (.inr (.inr rfl)))
 |j+8,h=>omega
def coK (r:Int) (B:List Int) (z:Nat) (c:Cls) (E:AEnd) (σ':St):Prop:=E=.ret (vi r)∧∀j,j<(coO B z c).length→σ'.obj j=(stL (coO B z c)).obj j
theorem J87 {B:List Int} {z:Nat} {c:Cls} {l:List Br} {r:Int} (h:AFun X 118 [.d (.im (l.map eBrP)),.ref 5 0,.ref 6 0,.ref 7 0] (stL (coO B z c)) (coK r B z c)) (σ':St) (hT:∀j,coT j→σ'.obj j=(stL (coO B z c)).obj j):
  AFun X 118 [.d (.im (l.map eBrP)),.ref 5 0,.ref 6 0,.ref 7 0] σ' fun E σ2=>E=.ret (vi r)∧σ2=σ':=by
 refine AFun.wf h.1 fun hwf=>?_
 have h7:7<σ'.next:=hwf 7 _ (by rw[hT 7 (.inr (.inr (.inr (.inr rfl))))];rfl)
 exact AFun.ro (O:=coO B z c) h (fun j o ho=>(J3d ho).2) rfl rfl (fun j=>j) (fun i j _ _ _ _ e=>e) (fun j hj=>by have:j<8:=hj;omega) (fun j o ho=>by rw[hT j (Jcg ho),J96];exact ho)
set_option maxHeartbeats 4000000 in
theorem JbQ (B:List Int) (z:Nat) (c:Cls) (hB:bdB B):∀(N:Nat) (l:List Br),brsN l=N→brsN l≤1048576→goodL B c.insts l→AFun X 118 [.d (.im (l.map eBrP)),.ref 5 0,.ref 6 0,.ref 7 0] (stL (coO B z c)) (coK (costL B c.insts l) B z c):=by
 intro N
 induction N using Nat.strongRecOn with
 |_ N ih=>
  intro l hN hle hg
  refine Jx Tryz.func118 rfl (by decide) Tryz.ntmps118 Tryz.results118 (by simp) ?_
  have hll:=J0j l
  unfold coO
  repeat' first|refine Z1 ?_|refine Z2 ?_|refine Z5 ?_|refine Zd ?_|refine Zo ?_|refine J5 ?_|refine J4 ?_
  refine Jo (ι:=Nat×Int) (fun x_=>envL [(0,.d (.im (l.map eBrP))),(1,.ref 5 0),(2,.ref 6 0),(3,.ref 7 0),(6,vi x_.2),(9,.d (.im (l.map eBrP))),(10,vi l.length),(11,vi x_.1)]) (fun x_=>stL [none,none,none,some (.row 2 3 1 (im2 eNum B)),some (.var [.sl 0 1 0 z,.sl 3 2 0 B.length]),some (.var [.ref 4 0]),some (.var ((eCls c).map .d)),some (.var [.fn 118 [.ref 5 0,.ref 6 0,.ref 7 0]])]) (fun x_=>x_.1≤l.length∧0≤x_.2∧x_.2+costL B c.insts (l.drop x_.1)=costL B c.insts l) (fun x_=>l.length-x_.1) (0,0) (⟨Nat.zero_le _,Int.le_refl _,by simp⟩) (Jg rfl ⟨.refl _,.refl _,.refl _,.refl _,.refl _,.refl _,.refl _,.refl _,trivial⟩ ⟨⟨rfl,_,rfl,rfl,rfl,rfl,rfl⟩,⟨rfl,_,rfl,rfl,fun _ _ _=>.refl _⟩,⟨rfl,_,rfl,rfl,fun _ _ _=>.refl _⟩,⟨rfl,_,rfl,rfl,fun _ _ _=>.refl _⟩,⟨rfl,_,rfl,rfl,fun _ _ _=>.refl _⟩,trivial⟩) (fun _=>Nat.le_refl 8) ?_
  rintro⟨k,n⟩ ⟨i1,i2,i3⟩
  simp only at i1 i2 i3
  rcases hx:l[k]? with _|b
  ·have hle:=Jk hx
   have ek:decide ((k:Int)<(l.length:Int))=false:=J1 (by omega)
   rw[Jm hx]at i3
   simp only[costL,Int.add_zero]at i3
   subst i3
   repeat' first|refine Z1 ?_|refine Z2 ?_|refine Zo ?_|refine J5 ?_|refine Zq ?_|refine Jf ?_|refine J9 ?_|refine J3 ?_|refine Jb ?_|refine Zv ?_|refine Zt ?_
   exact⟨rfl,fun j hj=>rfl⟩
  obtain⟨hd,hlt⟩:=Jc hx
  have ek:decide ((k:Int)<(l.length:Int))=true:=J0 (by omega)
  rw[hd]at i3
  simp only[costL]at i3
  have hmem:=List.mem_of_getElem? hx
  have hbn:=J1t hmem
  have hgb:=J5a hmem hg
  have b1:=J79 (I:=c.insts) hB b
  have b2:=J1n (I:=c.insts) hB (l.drop (k+1))
  have b3:=J1n (I:=c.insts) hB l
  obtain⟨s,y,m⟩:=b
  simp only[brN]at hbn
  simp only[goodB]at hgb
  obtain⟨g1,g2,g3⟩:=hgb
  simp only[costB]at i3 b1
  by_cases k3:s.kind=3
  ·have d3:decide (s.kind=3)=true:=J0 k3
   obtain⟨g4,g,v,g5,g6,g7⟩:=g1 k3
   rw[if_pos k3]at i3
   have hc:callC B c.insts s.pos=v:=by unfold callC;rw[g5];simp only[Option.getD_some];rw[g7];rfl
   rw[hc]at i3
   have hv:=hB v (List.mem_of_getElem? g7)
   obtain⟨p,hp⟩:∃p:Nat,s.pos=(p:Int):=⟨s.pos.toNat,by omega⟩
   obtain⟨q,hq⟩:∃q:Nat,g=(q:Int):=⟨g.toNat,by omega⟩
   rw[hp,Int.toNat_natCast]at g5
   rw[hq,Int.toNat_natCast]at g7
   have hql:q<B.length:=(List.getElem?_eq_some_iff.1 g7).1
   have hqr:(im2 eNum B)[q]? = some [vi v]:=J2E g7
   repeat' first|refine Z1 ?_|refine Z2 ?_|refine Z5 ?_|refine Ju ?_|refine Ze ?_|refine Zf ?_|refine Zo ?_|refine J5 ?_|refine Zp ?_|refine J4 ?_|refine J7 ?_|refine J3 ?_
   refine J09 coT [] Jr (by decide +kernel) ?_
   repeat' first|refine Wa ?_|refine Wn ?_|refine Wl (i:=5) rfl (.inr (.inr (.inl rfl))) ?_|refine Wr (i:=4) rfl (.inr (.inl rfl)) ?_|refine Wl (i:=6) rfl (.inr (.inr (.inr (.inl rfl)))) ?_
   refine Wq (fun σ' _=>Ze (k:=p) ⟨rfl,rfl⟩ rfl (congrArg vi hp) g5) ?_
   refine Wa ?_
   refine Wq (fun σ' h=>Yi1 (n:=g) q (h 3 (.inl rfl)) hq hql ⟨rfl,rfl⟩) ?_
   refine Wq (fun σ' h=>Ye1 (h 3 (.inl rfl)) hqr ⟨rfl,rfl⟩) ?_
   refine Wq (fun σ' h=>Zf ⟨rfl,rfl⟩) ?_
   refine Wa ?_
   refine Wy ?_
   repeat' first|refine Z1 ?_|refine Z2 ?_|refine Z5 ?_|refine Zf ?_|refine Jd ?_|refine J3 ?_|refine J6 ?_
   exact⟨(k+1,n+1+v),⟨hlt,by simp only;omega,by simp only;omega⟩,by(try simp only);omega,Jh (Nat.le_of_ble_eq_true rfl) ⟨⟨rfl,rfl⟩,⟨rfl,rfl⟩,⟨rfl,rfl⟩,⟨rfl,rfl⟩,⟨rfl,rfl⟩,⟨rfl,rfl⟩,⟨rfl,rfl⟩,⟨rfl,rfl⟩,trivial⟩ ⟨⟨rfl,Je rfl,Jl _ _ _⟩,⟨rfl,rfl⟩,⟨rfl,rfl⟩,⟨rfl,rfl⟩,⟨rfl,rfl⟩,trivial⟩⟩
  have d3:decide (s.kind=3)=false:=J1 k3
  rw[if_neg k3]at i3 b1
  by_cases k4:s.kind=4
  ·have d4:decide (s.kind=4)=true:=J0 k4
   rw[if_pos k4]at i3 b1
   have hy:=J87 (ih (brsN y) (by omega) y rfl (by omega) g2)
   have hm:=J87 (ih (brsN m) (by omega) m rfl (by omega) g3)
   rw[←J1s]at hy hm
   repeat' first|refine Z1 ?_|refine Z2 ?_|refine Z5 ?_|refine Ju ?_|refine Ze ?_|refine Zf ?_|refine Zo ?_|refine J5 ?_|refine Zp ?_|refine Zq ?_|refine J4 ?_|refine J7 ?_|refine J3 ?_
   refine J09 coT [] Jr (by decide +kernel) ?_
   repeat' first|refine Wa ?_|refine Wn ?_|refine Wl (i:=7) rfl (.inr (.inr (.inr (.inr rfl)))) ?_
   refine Wc hy ?_
   repeat' first|refine Wa ?_|refine Wn ?_|refine Wl (i:=7) rfl (.inr (.inr (.inr (.inr rfl)))) ?_
   refine Wc hm ?_
   refine Wq (fun σ' h=>Yi ⟨rfl,rfl⟩) ?_
   refine Wq (fun σ' h=>Zf ⟨rfl,rfl⟩) ?_
   refine Wa ?_
   refine Wy ?_
   repeat' first|refine Z1 ?_|refine Z2 ?_|refine Z5 ?_|refine Zf ?_|refine Jd ?_|refine J3 ?_|refine J6 ?_
   exact⟨(k+1,n+1+max (costL B c.insts y) (costL B c.insts m)),⟨hlt,by simp only;omega,by simp only;omega⟩,by(try simp only);omega,Jh (Nat.le_of_ble_eq_true rfl) ⟨⟨rfl,rfl⟩,⟨rfl,rfl⟩,⟨rfl,rfl⟩,⟨rfl,rfl⟩,⟨rfl,rfl⟩,⟨rfl,rfl⟩,⟨rfl,rfl⟩,⟨rfl,rfl⟩,trivial⟩ ⟨⟨rfl,Je rfl,Jl _ _ _⟩,⟨rfl,rfl⟩,⟨rfl,rfl⟩,⟨rfl,rfl⟩,⟨rfl,rfl⟩,trivial⟩⟩
  have d4:decide (s.kind=4)=false:=J1 k4
  rw[if_neg k4]at i3 b1
  repeat' first|refine Z1 ?_|refine Z2 ?_|refine Z5 ?_|refine Ju ?_|refine Ze ?_|refine Zf ?_|refine Zo ?_|refine J5 ?_|refine Jd ?_|refine Zp ?_|refine Zq ?_|refine J4 ?_|refine J7 ?_|refine J3 ?_|refine J6 ?_
  exact⟨(k+1,n+1),⟨hlt,by simp only;omega,by simp only;omega⟩,by(try simp only);omega,Jh (Nat.le_of_ble_eq_true rfl) ⟨⟨rfl,rfl⟩,⟨rfl,rfl⟩,⟨rfl,rfl⟩,⟨rfl,rfl⟩,⟨rfl,rfl⟩,⟨rfl,rfl⟩,⟨rfl,rfl⟩,⟨rfl,rfl⟩,trivial⟩ ⟨⟨rfl,Je rfl,Jl _ _ _⟩,⟨rfl,rfl⟩,⟨rfl,rfl⟩,⟨rfl,rfl⟩,⟨rfl,rfl⟩,trivial⟩⟩
end Go.Pm
/- Part of the proof: Gr5. -/
namespace Go.Pm
def goodF (B I:List Int):List Fr→Prop
 |[]=>True
 |f::st=>(goodS B I f.s∧goodL B I f.yes∧goodL B I f.no)∧goodF B I st
def frN:List Fr→Nat
 |[]=>0
 |f::st=>1+brsN f.yes+brsN f.no+frN st
theorem J2c {B I:List Int}:∀{l m:List Br},goodL B I l→goodL B I m→goodL B I (l++m)
 |[],_,_,h=>h
 |b::l,m,h,h'=>by simp only[goodL,List.cons_append]at h ⊢;exact⟨h.1,J2c h.2 h'⟩
theorem J0s:∀l m:List Br,brsN (l++m)=brsN l+brsN m
 |[],m=>by simp[brsN]
 |b::l,m=>by simp only[List.cons_append,brsN,J0s l m];omega
theorem J5g {B I:List Int} {b:Br} (hb:goodB B I b):∀{st:List Fr} {R:List Br},goodF B I st→goodL B I R→goodF B I (putF b st R).1∧goodL B I (putF b st R).2
 |[],R,hs,hr=>⟨trivial,J2c hr ⟨hb,trivial⟩⟩
 |f::st,R,hs,hr=>by
  simp only[putF,goodF]at hs ⊢
  obtain⟨⟨h1,h2,h3⟩,h4⟩:=hs
  refine⟨⟨?_,h4⟩,hr⟩
  split
  ·exact⟨h1,h2,J2c h3 ⟨hb,trivial⟩⟩
  ·exact⟨h1,J2c h2 ⟨hb,trivial⟩,h3⟩
theorem J9O (b:Br):∀(st:List Fr) (R:List Br),frN (putF b st R).1+brsN (putF b st R).2=frN st+brsN R+brN b
 |[],R=>by simp only[putF,frN,J0s,brsN];omega
 |f::st,R=>by
  simp only[putF,frN]
  split<;>simp only[J0s,brsN]<;>omega
theorem J0N {B I:List Int}:∀(l:List Sm) (st:List Fr) (R R':List Br),(∀s∈l,goodS B I s)→goodF B I st→goodL B I R→growGo l st R=some R'→goodL B I R'∧brsN R'≤l.length+frN st+brsN R
 |[],[],R,R',_,_,h,e=>by simp only[growGo,Option.some.injEq]at e;subst e;exact⟨h,by omega⟩
 |[],_::_,R,R',_,_,_,e=>by simp[growGo]at e
 |s::l,st,R,R',hl,hs,hr,e=>by
  have hl':∀s∈l,goodS B I s:=fun u hu=>hl u (List.mem_cons_of_mem _ hu)
  have hs0:=hl s List.mem_cons_self
  simp only[growGo]at e
  split at e
  ·have:=J0N l (⟨s,false,[],[]⟩::st) R R' hl' ⟨⟨hs0,trivial,trivial⟩,hs⟩ hr e
   refine⟨this.1,?_⟩
   have h2:=this.2
   simp only[frN,brsN,List.length_cons]at h2 ⊢
   omega
  ·split at e
   ·cases st with
    |nil=>cases e
    |cons f st'=>
     dsimp only at e
     split at e
     ·cases e
     ·have:=J0N l ({f with els:=true}::st') R R' hl' (by simp only[goodF]at hs ⊢;exact hs) hr e
      refine⟨this.1,?_⟩
      have h2:=this.2
      simp only[frN,List.length_cons]at h2 ⊢
      omega
   ·split at e
    ·cases st with
     |nil=>cases e
     |cons f st'=>
      dsimp only at e
      split at e
      ·simp only[goodF]at hs
       have hb:goodB B I (.nd f.s f.yes f.no):=by simp only[goodB];exact hs.1
       obtain⟨g1,g2⟩:=J5g hb hs.2 hr
       have hn:=J9O (.nd f.s f.yes f.no) st' R
       have:=J0N l _ _ R' hl' g1 g2 e
       refine⟨this.1,?_⟩
       have h2:=this.2
       simp only[brN]at hn
       simp only[frN,List.length_cons]at h2 ⊢
       omega
      ·cases e
    ·have hb:goodB B I (.nd s [] []):=by simp only[goodB,goodL];exact⟨hs0,trivial,trivial⟩
     obtain⟨g1,g2⟩:=J5g hb hs hr
     have hn:=J9O (.nd s [] []) st R
     have:=J0N l _ _ R' hl' g1 g2 e
     refine⟨this.1,?_⟩
     have h2:=this.2
     simp only[brN,brsN]at hn
     simp only[List.length_cons]at h2 ⊢
     omega
theorem J5y {B I:List Int} {l:List Sm} {R:List Br} (hl:∀s∈l,goodS B I s) (e:growI l=some R):goodL B I R∧brsN R≤l.length:=by
 have:=J0N l [] [] R hl trivial trivial e
 simpa[frN,brsN]using this
def coP (j:Nat):Nat:=match j with|0=>4|1=>6|2=>7|3=>5|4=>1|5=>2|6=>8|7=>16|j+8=>j+17
theorem Jbf:∀i,i<8→∀j,j<8→coP i=coP j→i=j:=by decide
theorem JbP:∀i,i<8→coP i<17:=by decide
theorem J5X {B:List Int} {z:Nat} {c:Cls} (hB:bdB B) {R:List Br} (hn:brsN R≤1048576) (hg:goodL B c.insts R) {σ:St} (hnx:Nat.ble 17 σ.next=true) (h1:σ.obj 1=some (.var [.sl 4 6 0 z,.sl 5 7 0 B.length])) (h2:σ.obj 2=some (.var [.ref 1 0])) (h5:σ.obj 5=some (.row 7 3 1 (im2 eNum B))) (h8:σ.obj 8=some (.var ((eCls c).map .d)))
  (h16:σ.obj 16=some (.var [.fn 118 [.ref 2 0,.ref 8 0,.ref 16 0]])):AFun X 118 [.d (.im (R.map eBrP)),.ref 2 0,.ref 8 0,.ref 16 0] σ fun E σ2=>E=.ret (vi (costL B c.insts R))∧σ2=σ:=by
 have hnx:=Nat.le_of_ble_eq_true hnx
 refine AFun.ro (O:=coO B z c) (JbQ B z c hB (brsN R) R rfl hn hg) (fun j o ho=>(J3d ho).2) rfl rfl coP (fun i j _ _ hi hj e=>Jbf i (J3d hi).1 j (J3d hj).1 e) (fun j hj=>by have:=JbP j hj;omega) (fun j o ho=>?_)
 have h8':=(J3d ho).1
 unfold coO at ho
 match j,ho with
 |0,h=>cases h
 |1,h=>cases h
 |2,h=>cases h
 |3,h=>cases h;exact h5.trans (Jn rfl (Jq _ _ _))
 |4,h=>cases h;exact h1
 |5,h=>cases h;exact h2
 |6,h=>cases h;exact h8
 |7,h=>cases h;exact h16
 |j+8,h=>omega
theorem app4 {X:Cfg} {Q:Exit→Env→St→Prop} {K:AV→St→Prop} {env:Env} {σ:St} {α:Type} {e:α→List D} {l:List α} {y:α} {i h k v t tx el sz:Nat} {ti te tix:TI} {s x:Operand} {ars:Array Operand} {ts:Array TypeId} (ho:σ.obj i=some (.row h el sz (im2 e l))) (hk:σ.obj k=some (.row v el sz [(e y).map .d])) (hf:∀z,(e z).length=sz)
  (hK:K (.sl i σ.next 0 (l++[y]).length) (bumpSet σ i (.row σ.next el sz (im2 e (l++[y])))))
  (h1:ars.toList=[s,x]:=by exact rfl) (h2:ts.toList=[t,tx]:=by exact rfl) (hs:aev X env s=.sl i h 0 l.length:=by exact rfl) (hx:aev X env x=.sl k v 0 1:=by exact rfl) (ht:X.T t=some ti:=by exact rfl) (hkd:ti.kind=.slice el:=by exact rfl) (hte:X.T el=some te:=by exact rfl) (hsz:te.size=sz:=by exact rfl) (hp:Nat.blt 0 sz=true:=by exact rfl)
  (hpb:Nat.blt 0 te.bytes=true:=by exact rfl) (htx:X.T tx=some tix:=by exact rfl) (hkx:tix.kind=.slice el:=by exact rfl) (hbb:Nat.ble te.bytes 1024=true:=by exact rfl) (hb:l.length≤2097152:=by omega):aoper X (.call ⟨.builtin .append,ars,ts⟩) env σ Q K:=
 app3 ho hk hf (by rw[List.length_append]at hK;exact hK) h1 h2 hs hx ht hkd hte hsz hp hpb htx hkx hbb hb
end Go.Pm
/- Part of the proof: Fu1. -/
namespace Go.Pm
def bSm:Br→Sm|.nd s _ _=>s
def bYs:Br→List Br|.nd _ y _=>y
def bNs:Br→List Br|.nd _ _ n=>n
theorem J7z (b:Br):.nd (bSm b) (bYs b) (bNs b)=b:=by cases b;rfl
def prB (a b:Br):Bool:=decide ((bSm b).kind=4)&&(decide ((bSm a).kind=4)&&decide ((bSm a).name=(bSm b).name))
def jnB (a b:Br):Br:=.nd (bSm a) (bYs a++bYs b) (bNs a++bNs b)
theorem J1A {a b:Br}:prB a b=true↔(bSm b).kind=4∧(bSm a).kind=4∧(bSm a).name=(bSm b).name:=by simp[prB]
theorem Jbq (a b c:Br):prB (jnB a b) c=prB a c:=rfl
theorem Jcc (a b c:Br):prB a (jnB b c)=prB a b:=rfl
theorem Jae {a b:Br} (h:prB a b=true) (c:Br):prB b c=prB a c:=by
 obtain⟨h1,h2,h3⟩:=J1A.1 h
 simp[prB,h1,h2,h3]
theorem Jaf (a b c:Br):jnB (jnB a b) c=jnB a (jnB b c):=by simp[jnB,bSm,bYs,bNs]
def fmC (b:Br):List Br→List Br
 |[]=>[b]
 |c::m=>match prB b c with
  |true=>jnB b c::m
  |false=>b::c::m
theorem J2h {b c:Br} (h:prB b c=true) (m:List Br):fmC b (c::m)=jnB b c::m:=by simp only[fmC,h]
theorem J3q {b c:Br} (h:prB b c=false) (m:List Br):fmC b (c::m)=b::c::m:=by simp only[fmC,h]
def fm:List Br→List Br
 |[]=>[]
 |b::l=>fmC b (fm l)
theorem Jbv {a b:Br} (h:prB a b=true):∀m:List Br,fmC a (fmC b m)=fmC (jnB a b) m
 |[]=>J2h h []
 |c::m=>by
  cases q:prB a c with
  |true=>rw[J2h ((Jae h c).trans q),J2h ((Jcc a b c).trans h),J2h ((Jbq a b c).trans q),Jaf]
  |false=>rw[J3q ((Jae h c).trans q),J2h h,J3q ((Jbq a b c).trans q)]
theorem J9v {a b:Br} (h:prB a b=true):∀p l:List Br,fm (p++a::b::l)=fm (p++jnB a b::l)
 |[],l=>Jbv h (fm l)
 |x::p,l=>by simp only[List.cons_append,fm,J9v h p l]
def plT:List Br→Prop
 |[]=>True
 |a::l=>(∀b m,l=b::m→prB a b=false)∧plT l
theorem Jaa:∀l:List Br,plT l→fm l=l
 |[],_=>rfl
 |a::l,h=>by
  simp only[fm,Jaa l h.2]
  cases l with
  |nil=>rfl
  |cons b m=>exact J3q (h.1 b m rfl) m
theorem J1K {a:Br}:∀{l:List Br},(∀b m,l=b::m→prB a b=false)→plT l→plT (a::l):=fun h1 h2=>⟨h1,h2⟩
theorem J5V:∀(o:List Br) (a b:Br),plT (o++[a])→prB a b=false→plT (o++[a,b])
 |[],a,b,h,hp=>J1K (fun x m e=>by cases e;exact hp) (J1K (fun _ _ e=>by cases e) trivial)
 |x::o,a,b,h,hp=>J1K (fun y m e=>by
   cases o with
   |nil=>cases e;exact h.1 a [] rfl
   |cons z o=>cases e;exact h.1 _ _ rfl) (J5V o a b h.2 hp)
theorem J9h:∀(o:List Br) (a b:Br),plT (o++[a])→plT (o++[jnB a b])
 |[],a,b,h=>J1K (fun _ _ e=>by cases e) trivial
 |x::o,a,b,h=>J1K (fun y m e=>by
   cases o with
   |nil=>cases e;exact h.1 a [] rfl
   |cons z o=>cases e;exact h.1 _ _ rfl) (J9h o a b h.2)
theorem J1M (b:Br):brN b=1+brsN (bYs b)+brsN (bNs b):=by cases b;simp[brN,bYs,bNs]
theorem Jbz (a b:Br):brN (jnB a b)+1=brN a+brN b:=by simp only[J1M,jnB,bYs,bNs,J0s];omega
theorem Jch (b:Br):∀m:List Br,brsN (fmC b m)≤brN b+brsN m
 |[]=>by simp[fmC,brsN]
 |c::m=>by
  cases q:prB b c with
  |true=>have:=Jbz b c;rw[J2h q];simp only[brsN];omega
  |false=>rw[J3q q];simp only[brsN];omega
theorem JaA:∀l:List Br,brsN (fm l)≤brsN l
 |[]=>Nat.le_refl _
 |b::l=>by
  have h1:=Jch b (fm l)
  have h2:=JaA l
  simp only[fm,brsN];omega
def fuF:Nat→List Br→List Br
 |0,_=>[]
 |k+1,l=>(fm l).map fun b=>.nd (bSm b) (fuF k (bYs b)) (fuF k (bNs b))
inductive Fs:List Br→List Br→Prop
 |top (p:List Br) (a b:Br) (q:List Br) (h:prB a b=true):Fs (p++a::b::q) (p++jnB a b::q)
 |yes (p:List Br) (s:Sm) (y y' n q:List Br) (h:Fs y y'):Fs (p++.nd s y n::q) (p++.nd s y' n::q)
 |no (p:List Br) (s:Sm) (y n n' q:List Br) (h:Fs n n'):Fs (p++.nd s y n::q) (p++.nd s y n'::q)
theorem Fs.ctx {y y':List Br} (u v:List Br) (h:Fs y y'):Fs (u++y++v) (u++y'++v):=by
 cases h with
 |top p a b q h=>have:=Fs.top (u++p) a b (q++v) h;simpa using this
 |yes p s y y' n q h=>have:=Fs.yes (u++p) s y y' n (q++v) h;simpa using this
 |no p s y n n' q h=>have:=Fs.no (u++p) s y n n' (q++v) h;simpa using this
theorem Fs.n {l l':List Br} (h:Fs l l'):brsN l=brsN l'+1:=by
 induction h with
 |top p a b q h=>have:=Jbz a b;simp only[J0s,brsN];omega
 |yes p s y y' n q h ih=>simp only[J0s,brsN,brN];omega
 |no p s y n n' q h ih=>simp only[J0s,brsN,brN];omega
inductive Ft:List Br→List Br→Prop
 |refl (a:List Br):Ft a a
 |step {a b c:List Br} (h:Fs a b) (t:Ft b c):Ft a c
theorem Ft.trans {a b c:List Br} (h:Ft a b) (h':Ft b c):Ft a c:=by
 induction h with
 |refl=>exact h'
 |step h _ ih=>exact .step h (ih h')
theorem Ft.ctx {y y':List Br} (u v:List Br) (h:Ft y y'):Ft (u++y++v) (u++y'++v):=by
 induction h with
 |refl=>exact .refl _
 |step h _ ih=>exact .step (h.ctx u v) ih
theorem Ft.app {a a' b b':List Br} (h:Ft a a') (h':Ft b b'):Ft (a++b) (a'++b'):=by
 have h1:=h.ctx [] b
 have h2:=h'.ctx a' []
 simp only[List.nil_append,List.append_nil]at h1 h2
 exact h1.trans h2
def PT (b b':Br):Prop:=bSm b=bSm b'∧Ft (bYs b) (bYs b')∧Ft (bNs b) (bNs b')
theorem PT.rfl (b:Br):PT b b:=⟨.refl _,.refl _,.refl _⟩
inductive P2:List Br→List Br→Prop
 |nil:P2 [] []
 |cons {b b':Br} {l l':List Br} (h:PT b b') (t:P2 l l'):P2 (b::l) (b'::l')
theorem P2.rfl:∀l:List Br,P2 l l
 |[]=>.nil
 |b::l=>.cons (PT.rfl b) (P2.rfl l)
theorem P2.mid {b b':Br} (h:PT b b') (q:List Br):∀p:List Br,P2 (p++b::q) (p++b'::q)
 |[]=>.cons h (P2.rfl q)
 |x::p=>.cons (PT.rfl x) (P2.mid h q p)
theorem JaQ {b b':Br} (h:PT b b') {m m':List Br} (t:P2 m m'):P2 (fmC b m) (fmC b' m'):=by
 cases t with
 |nil=>exact .cons h .nil
 |@cons c c' m m' hc t=>
  have e:prB b c=prB b' c':=by simp only[prB,h.1,hc.1]
  cases q:prB b' c' with
  |true=>rw[J2h (e.trans q),J2h q];exact .cons ⟨h.1,h.2.1.app hc.2.1,h.2.2.app hc.2.2⟩ t
  |false=>rw[J3q (e.trans q),J3q q];exact .cons h (.cons hc t)
theorem JbZ {l l':List Br} (h:P2 l l'):P2 (fm l) (fm l'):=by
 induction h with
 |nil=>exact .nil
 |cons h _ ih=>exact JaQ h ih
theorem Fs.rel {l l':List Br} (h:Fs l l'):fm l=fm l'∨P2 l l':=by
 cases h with
 |top p a b q h=>exact .inl (J9v h p q)
 |yes p s y y' n q h=>exact .inr (P2.mid (b:=.nd s y n) (b':=.nd s y' n) ⟨rfl,.step h (.refl _),.refl _⟩ q p)
 |no p s y n n' q h=>exact .inr (P2.mid (b:=.nd s y n) (b':=.nd s y n') ⟨rfl,.refl _,.step h (.refl _)⟩ q p)
theorem Jbt:∀(k:Nat) (l l':List Br),brsN l≤k→Fs l l'→fuF k l=fuF k l'
 |0,l,l',h,hs=>rfl
 |k+1,l,l',h,hs=>by
  have hT:∀y y',Ft y y'→brsN y≤k→fuF k y=fuF k y':=by
   intro y y' t
   induction t with
   |refl=>intro _;rfl
   |@step a b c hs' _ ih=>
    intro hk
    have:=hs'.n
    rw[Jbt k a b hk hs',ih (by omega)]
  rcases hs.rel with e|e
  ·simp only[fuF,e]
  ·have hf:=JbZ e
   have hn:=Nat.le_trans (JaA l) h
   simp only[fuF]
   generalize fm l=m at hf hn
   generalize fm l'=m' at hf
   clear e hs h
   induction hf with
   |nil=>rfl
   |@cons b b' m m' hb t ih=>
    simp only[brsN]at hn
    have:=J1M b
    simp only[List.map_cons]
    rw[ih (by omega),hb.1,hT _ _ hb.2.1 (by omega),hT _ _ hb.2.2 (by omega)]
theorem Ja7:∀l:List Br,(∀l',¬Fs l l')→plT l
 |[],_=>trivial
 |a::l,h=>by
  refine⟨fun b m e=>?_,Ja7 l fun l' hl=>?_⟩
  ·subst e
   cases hp:prB a b with
   |false=>rfl
   |true=>exact absurd (Fs.top [] a b m hp) (h _)
  ·have:=hl.ctx [a] []
   simp only[List.append_nil,List.singleton_append]at this
   exact h _ this
theorem J5O:∀(k:Nat) (l:List Br),brsN l≤k→(∀l',¬Fs l l')→fuF k l=l
 |0,[],h,_=>rfl
 |0,b::l,h,_=>by have:=J1M b;simp only[brsN]at h;omega
 |k+1,l,h,hn=>by
  simp only[fuF,Jaa l (Ja7 l hn)]
  have hm:∀b∈l,(.nd (bSm b) (fuF k (bYs b)) (fuF k (bNs b)):Br)=b:=by
   intro b hb
   have hle:=J1t hb
   have he:=J1M b
   obtain⟨p,q,rfl⟩:=List.append_of_mem hb
   rw[J5O k (bYs b) (by omega) fun l' hl=>?_,J5O k (bNs b) (by omega) fun l' hl=>?_,J7z]
   ·have:=Fs.no p (bSm b) (bYs b) _ _ q hl
    rw[J7z]at this;exact hn _ this
   ·have:=Fs.yes p (bSm b) _ _ (bNs b) q hl
    rw[J7z]at this;exact hn _ this
  clear h hn
  induction l with
  |nil=>rfl
  |cons b l ih=>rw[List.map_cons,hm b (by simp),ih fun c hc=>hm c (by simp[hc])]
theorem J6c:∀(k j:Nat) (l:List Br),brsN l≤k→brsN l≤j→fuF k l=fuF j l
 |0,0,l,_,_=>rfl
 |0,j+1,l,h,_=>by
  cases l with
  |nil=>rfl
  |cons b l=>have:=J1M b;simp only[brsN]at h;omega
 |k+1,0,l,_,h=>by
  cases l with
  |nil=>rfl
  |cons b l=>have:=J1M b;simp only[brsN]at h;omega
 |k+1,j+1,l,h1,h2=>by
  have hn:=JaA l
  simp only[fuF]
  refine List.map_congr_left fun b hb=>?_
  have:=J1t hb
  have:=J1M b
  rw[J6c k j (bYs b) (by omega) (by omega),J6c k j (bNs b) (by omega) (by omega)]
def elsM:Sm:=⟨5,.empty,0,[],[],[]⟩
def endM:Sm:=⟨6,.empty,0,[],[],[]⟩
mutual
def flB:Br→List Sm
 |.nd s y n=>s::(if s.kind=4 then flL y++elsM::(flL n++[endM])else[])
def flL:List Br→List Sm
 |[]=>[]
 |b::l=>flB b++flL l
end
theorem J2B:∀p q:List Br,flL (p++q)=flL p++flL q
 |[],q=>rfl
 |b::p,q=>by simp only[List.cons_append,flL,J2B p q,List.append_assoc]
def cnS (s:Sm):Prop:=(s.kind=5→s=elsM)∧(s.kind=6→s=endM)
theorem J6L {l:List Sm} {T:List Br} (h:Spell l T):(∀s∈l,cnS s)→l=flL T:=by
 induction h with
 |nil=>intro _;rfl
 |leaf h4 h5 h6 _ ih=>
  intro hc
  simp only[flL,flB,h4,if_false]
  rw[←ih fun s hs=>hc s (by simp[hs])]
  rfl
 |@cond s e f y n l Y N R h4 h5 h6 _ _ _ ihy ihn ih=>
  intro hc
  simp only[flL,flB,h4,if_true]
  rw[←ih fun s hs=>hc s (by simp[hs]),←ihy fun s hs=>hc s (by simp[hs]),←ihn fun s hs=>hc s (by simp[hs]),(hc e (by simp)).1 h5,(hc f (by simp)).2 h6]
  simp
theorem J0u:∀(p q:List Br) {l:List Sm},Spell l (p++q)→∃l1 l2,l=l1++l2∧Spell l1 p∧Spell l2 q
 |[],q,l,h=>⟨[],l,rfl,.nil,h⟩
 |b::p,q,l,h=>by
  generalize e:b::p++q=T at h
  cases h with
  |nil=>cases e
  |leaf h4 h5 h6 h=>
   simp only[List.cons_append,List.cons.injEq]at e
   obtain⟨rfl,rfl⟩:=e
   obtain⟨l1,l2,rfl,a,b⟩:=J0u p q h
   exact⟨_::l1,l2,rfl,.leaf h4 h5 h6 a,b⟩
  |@cond s e' f y n l Y N R h4 h5 h6 hy hn h=>
   simp only[List.cons_append,List.cons.injEq]at e
   obtain⟨rfl,rfl⟩:=e
   obtain⟨l1,l2,rfl,a,b⟩:=J0u p q h
   exact⟨s::(y++e'::(n++f::l1)),l2,by simp,.cond h4 h5 h6 hy hn a,b⟩
end Go.Pm
