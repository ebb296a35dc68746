/- Part of the proof: Sp1. -/
import Derived.Test.YtdjanhhljinokaaGreatDoorT12
import Derived.Test.YtdjanhhljinokaaGreatDoorT8
import Derived.Test.YtdjanhhljinokaaGreatDoorT9
set_option linter.unusedVariables false
set_option linter.unusedSimpArgs false
namespace Go.Pm
attribute [local irreducible] AR Ok inBlock andThen endQ aoper
set_option maxHeartbeats 1000000
open Go.Proofs
theorem J28 (c:UInt8):PFun X 136 [.d (.s (.int .u8 c.toNat))] (vb (digitI c)):=by
 refine Jn Tryz.func136 rfl (by decide) Tryz.ntmps136 Tryz.results136 (by simp) rfl rfl ?_
 repeat' first|refine Z1 ?_|refine Z2 ?_|refine Z5 ?_|refine Z7 ?_|refine Z8 ?_|refine Za (fun hc=>?_) (fun hc=>?_)|refine Zh ?_|refine Zi ?_|refine Zl ?_|refine Zm ?_|refine Zo ?_|refine Jb ?_|refine Zt ?_
 all_goals simp[digitI, *]
theorem J1e (c:UInt8):PFun X 195 [.d (.s (.int .u8 c.toNat))] (vb (letterI c)):=by
 refine Jn Tryz.func195 rfl (by decide) Tryz.ntmps195 Tryz.results195 (by simp) rfl rfl ?_
 repeat' first|refine Z1 ?_|refine Z2 ?_|refine Z5 ?_|refine Z6 ?_|refine Z7 ?_|refine Z8 ?_|refine Z9 ?_|refine Za (fun hc=>?_) (fun hc=>?_)|refine Zb (fun hc=>?_) (fun hc=>?_)|refine Zh ?_|refine Zi ?_|refine Zl ?_|refine Zm ?_|refine Zo ?_|refine Jb ?_|refine Zt ?_
 all_goals simp[letterI, *]
def inS (ks:List ByteArray) (s:ByteArray):Bool:=ks.any fun k=>decide (k=s)
theorem J3y (ks:List ByteArray) (s:ByteArray) (hl:ks.length≤1048576):PFun X 169 [.d (.im (ks.map eStr)),vs s] (vb (inS ks s)):=by
 refine Jn Tryz.func169 rfl (by decide) Tryz.ntmps169 Tryz.results169 (by simp) rfl rfl ?_
 repeat' first|refine Z1 ?_|refine Z2 ?_|refine Z5 ?_|refine Zd ?_|refine Zo ?_|refine J6 ?_|refine J5 ?_
 refine Jq (ι:=Nat) (fun x=>envL [(1,vs s),(4,vb false),(7,.d (.im (ks.map eStr))),(8,vi ks.length),(9,vi x)]) (fun x=>stL []) (fun x=>x≤ks.length∧inS (ks.drop x) s=inS ks s) (fun x=>ks.length-x) 0 (⟨Nat.zero_le _,rfl⟩) (Jj rfl ⟨.refl _,.refl _,.refl _,.refl _,.refl _,trivial⟩ trivial) (fun _=>Nat.le_refl 0) ?_
 rintro k ⟨i1,i2⟩
 rcases hx:ks[k]? with _|x
 ·have hle:=Jo hx
  have ek:decide ((k:Int)<(ks.length:Int))=false:=J1 (by omega)
  rw[Jr hx]at i2
  repeat' first|refine Z1 ?_|refine Z2 ?_|refine Zo ?_|refine J6 ?_|refine Zq ?_|refine Jh ?_|refine Jb ?_|refine J3 ?_|refine Ja ?_|refine Zv ?_|refine Zt ?_
  exact Jm i2
 ·obtain⟨hd,hlt⟩:=Ji hx
  have ek:decide ((k:Int)<(ks.length:Int))=true:=J0 (by omega)
  rw[hd]at i2
  simp only[inS,List.any_cons]at i2
  cases he:decide (x=s)with
  |true=>
   repeat' first|refine Z1 ?_|refine Z2 ?_|refine Z5 ?_|refine Ze ?_|refine Zo ?_|refine J6 ?_|refine Zp ?_|refine J5 ?_|refine J8 ?_|refine Jb ?_|refine J3 ?_|refine J7 ?_|refine J9 ?_|refine Zt ?_
   exact Jm (by rw[he]at i2;exact i2)
  |false=>
   repeat' first|refine Z1 ?_|refine Z2 ?_|refine Z5 ?_|refine Ze ?_|refine Zf ?_|refine Zo ?_|refine J6 ?_|refine Jf ?_|refine Zp ?_|refine Zq ?_|refine J5 ?_|refine J8 ?_|refine J3 ?_|refine J4 ?_
   rw[he,Bool.false_or]at i2
   exact⟨k+1,⟨hlt,i2⟩,by(try simp only);omega,Jl (Nat.zero_le _) ⟨⟨rfl,rfl⟩,⟨rfl,rfl⟩,⟨rfl,rfl⟩,⟨rfl,rfl⟩,⟨rfl,rfl⟩,trivial⟩ trivial⟩
def kwSpecBytes:List (List UInt8):=[[110,111,100,101],[114,101,116,117,114,110,115],[118,97,114],[108,101,116],[116,101,108],[105,110,116],[98,111,111,108],[119,104,101,110],[119,104,101,110,111,116],[105,102],[116,104,101,110],[101,108,115,101],[102,98,121],[109,101,114,103,101],[116,114,117,101],[102,97,108,115,101],[97,110,100],[111,114],[120,111,114],[110,111,116],[109,111,100]]
def kwSpec:List ByteArray:=kwSpecBytes.map fun l=>⟨l.toArray⟩
theorem J9I:PFun X 196 [] (.d (.im (kwSpec.map eStr))):=by
 refine Jn Tryz.func196 rfl (by decide) Tryz.ntmps196 Tryz.results196 (by simp) rfl rfl ?_
 repeat' first|refine Z1 ?_|refine Z2 ?_|refine Z4 ?_|refine Zo ?_|refine Jb ?_|refine Zt ?_
 rfl
def plainS (s:ByteArray):Bool:=
 match bs s with
 |[]=>false
 |c::r=>if 40<(s.size:Int)then false else letterI c&&!inS kwSpec s&&(c::r).all tailI
def freshS (s:ByteArray):Bool:=
 match bs s with
 |c::d::r=>if 10<(s.size:Int)∨(c.toNat:Int)≠36∨(d.toNat:Int)=48 then false else(d::r).all digitI
 |_=>false
def nameS (s:ByteArray):Bool:=plainS s||freshS s
theorem J61 (s:ByteArray):PFun X 165 [vs s] (vb (plainS s)):=by
 have hsz:=J03 s
 refine Jn Tryz.func165 rfl (by decide) Tryz.ntmps165 Tryz.results165 (by simp) rfl rfl ?_
 rcases hb:bs s with _|⟨c,r⟩
 ·rw[hb]at hsz
  have e:decide ((s.size:Int)<1)=true:=J0 (by simp at hsz;omega)
  repeat' first|refine Z1 ?_|refine Z2 ?_|refine Z5 ?_|refine Z9 ?_|refine Zl ?_|refine Zo ?_|refine J6 ?_|refine Zp ?_|refine Jb ?_|refine J7 ?_|refine Zt ?_
  exact Jm (by simp[plainS,hb])
 ·have h0:(bs s)[0]? = some c:=by rw[hb];rfl
  rw[hb]at hsz
  simp only[List.length_cons]at hsz
  have e:decide ((s.size:Int)<1)=false:=J1 (by omega)
  by_cases hbig:40<(s.size:Int)
  ·have e2:decide (40<(s.size:Int))=true:=J0 hbig
   repeat' first|refine Z1 ?_|refine Z2 ?_|refine Z5 ?_|refine Z7 ?_|refine Z9 ?_|refine Zh ?_|refine Zi ?_|refine Zl ?_|refine Zm ?_|refine Zo ?_|refine J6 ?_|refine Zp ?_|refine Jb ?_|refine J7 ?_|refine Zt ?_
   exact Jm (by simp[plainS,hb,hbig])
  have e2:decide (40<(s.size:Int))=false:=J1 hbig
  cases hl:letterI c with
  |false=>
   have el:(!letterI c)=true:=by rw[hl];rfl
   repeat' first|refine Z1 ?_|refine Z2 ?_|refine Z5 ?_|refine Z7 ?_|refine Z9 ?_|refine J1c rfl rfl h0 rfl rfl rfl ?_|refine Zc (J1e _) ?_|refine Zh ?_|refine Zi ?_|refine Zl ?_|refine Zm ?_|refine Zo ?_|refine J6 ?_|refine Zp ?_|refine Jb ?_|refine J7 ?_|refine Zt ?_
   exact Jm (by simp[plainS,hb,hbig,hl])
  |true=>
   have el:(!letterI c)=false:=by rw[hl];rfl
   cases hw:inS kwSpec s with
   |true=>
    repeat' first|refine Z1 ?_|refine Z2 ?_|refine Z5 ?_|refine Z7 ?_|refine J1c rfl rfl h0 rfl rfl rfl ?_|refine Zc (J1e _) ?_|refine Zc (J9I) ?_|refine Zc (J3y kwSpec s (by decide)) ?_|refine Zh ?_|refine Zi ?_|refine Zm ?_|refine Zo ?_|refine J6 ?_|refine Zp ?_|refine Jb ?_|refine J7 ?_|refine Zt ?_
    exact Jm (by simp[plainS,hb,hbig,hl,hw])
   |false=>
    have hn:plainS s=(c::r).all tailI:=by simp only[plainS,hb,hbig,hl,hw,if_false];rfl
    repeat' first|refine Z1 ?_|refine Z2 ?_|refine Z5 ?_|refine Z7 ?_|refine J1c rfl rfl h0 rfl rfl rfl ?_|refine Zc (J1e _) ?_|refine Zc (J9I) ?_|refine Zc (J3y kwSpec s (by decide)) ?_|refine Zh ?_|refine Zi ?_|refine Zm ?_|refine Zo ?_|refine J6 ?_|refine Zq ?_|refine J5 ?_|refine J8 ?_|refine J3 ?_
    refine Jq (ι:=Nat) (fun x=>envL [(0,vs s),(2,vb false),(3,vi x)]) (fun x=>stL []) (fun x=>x≤s.size∧((bs s).drop x).all tailI=plainS s) (fun x=>s.size-x) 0 (⟨by omega,by rw[hn,hb];rfl⟩) (Jj rfl ⟨.refl _,.refl _,.refl _,trivial⟩ trivial) (fun _=>Nat.le_refl 0) ?_
    rintro k ⟨i2,i3⟩
    rcases hx:(bs s)[k]? with _|x
    ·have hle:=Jo hx
     rw[J03]at hle
     have ek:decide ((k:Int)<(s.size:Int))=false:=J1 (by omega)
     rw[Jr hx]at i3
     repeat' first|refine Z1 ?_|refine Z2 ?_|refine Zo ?_|refine J6 ?_|refine Zq ?_|refine Jh ?_|refine Jb ?_|refine J3 ?_|refine Ja ?_|refine Zv ?_|refine Zt ?_
     exact Jm i3
    ·obtain⟨hd,hlt⟩:=Ji hx
     rw[J03]at hlt
     have ek:decide ((k:Int)<(s.size:Int))=true:=J0 (by omega)
     rw[hd,List.all_cons]at i3
     cases htx:tailI x with
     |false=>
      have htx':=htx
      simp only[tailI,Bool.or_eq_false_iff,decide_eq_false_iff_not]at htx'
      have ex:(!letterI x)=true:=by rw[htx'.1.1];rfl
      have ex2:(!digitI x)=true:=by rw[htx'.1.2];rfl
      have ex3:decide ((x.toNat:Int)≠95)=true:=J0 htx'.2
      repeat' first|refine Z1 ?_|refine Z2 ?_|refine Z5 ?_|refine Z7 ?_|refine J1c rfl rfl hx rfl rfl rfl ?_|refine Zc (J28 _) ?_|refine Zc (J1e _) ?_|refine Zh ?_|refine Zi ?_|refine Zl ?_|refine Zo ?_|refine J6 ?_|refine Zp ?_|refine J5 ?_|refine J8 ?_|refine Jb ?_|refine J3 ?_|refine J7 ?_|refine J9 ?_|refine Zt ?_
      exact Jm (by rw[←i3,htx];rfl)
     |true=>
      rw[htx,Bool.true_and]at i3
      repeat' first|refine Z1 ?_|refine Z2 ?_|refine Z5 ?_|refine Z7 ?_|refine Z8 ?_|refine Za (fun hc=>?_) (fun hc=>?_)|refine J1c rfl rfl hx rfl rfl rfl ?_|refine Zc (J28 _) ?_|refine Zc (J1e _) ?_|refine Zf ?_|refine Zh ?_|refine Zi ?_|refine Zl ?_|refine Zm ?_|refine Zo ?_|refine J6 ?_|refine Jf ?_|refine Zp ?_|refine Zq ?_|refine Zr (fun hc=>?_) (fun hc=>?_)|refine J5 ?_|refine J8 ?_|refine Jb ?_|refine J3 ?_|refine J7 ?_|refine J9 ?_|refine J4 ?_|refine Zt ?_
      all_goals first
       |(exact⟨k+1,⟨by omega,i3⟩,by(try simp only);omega,Jl (Nat.zero_le _) ⟨⟨rfl,rfl⟩,⟨rfl,rfl⟩,⟨rfl,rfl⟩,trivial⟩ trivial⟩)
       |(exfalso;simp_all [tailI])
theorem J9j (s:ByteArray):PFun X 166 [vs s] (vb (freshS s)):=by
 have hsz:=J03 s
 refine Jn Tryz.func166 rfl (by decide) Tryz.ntmps166 Tryz.results166 (by simp) rfl rfl ?_
 by_cases h2:(s.size:Int)<2
 ·have e:decide ((s.size:Int)<2)=true:=J0 h2
  repeat' first|refine Z1 ?_|refine Z2 ?_|refine Z5 ?_|refine Z9 ?_|refine Zl ?_|refine Zo ?_|refine J6 ?_|refine Zp ?_|refine Jb ?_|refine J7 ?_|refine Zt ?_
  refine Jm ?_
  unfold freshS
  split
  ·rename_i hb;rw[hb]at hsz;simp only[List.length_cons]at hsz;omega
  ·rfl
 ·rcases hb:bs s with _|⟨c,_|⟨d,r⟩⟩
  ·rw[hb]at hsz;simp only[List.length_nil]at hsz;omega
  ·rw[hb]at hsz;simp only[List.length_cons,List.length_nil]at hsz;omega
  have h0:(bs s)[0]? = some c:=by rw[hb];rfl
  have h1:(bs s)[1]? = some d:=by rw[hb];rfl
  rw[hb]at hsz
  simp only[List.length_cons]at hsz
  have e:decide ((s.size:Int)<2)=false:=J1 h2
  by_cases hbad:10<(s.size:Int)∨(c.toNat:Int)≠36∨(d.toNat:Int)=48
  ·have hn:freshS s=false:=by simp only[freshS,hb,hbad,if_true]
   repeat' first|refine Z1 ?_|refine Z2 ?_|refine Z5 ?_|refine Z7 ?_|refine Z9 ?_|refine Zb (fun hc=>?_) (fun hc=>?_)|refine J1c rfl rfl h0 rfl rfl rfl ?_|refine J1c rfl rfl h1 rfl rfl rfl ?_|refine Zh ?_|refine Zi ?_|refine Zl ?_|refine Zm ?_|refine Zo ?_|refine J6 ?_|refine Zp ?_|refine Zr (fun hc=>?_) (fun hc=>?_)|refine J5 ?_|refine J8 ?_|refine Jb ?_|refine J3 ?_|refine J7 ?_|refine Zt ?_
   all_goals simp only[decide_eq_true_eq,decide_eq_false_iff_not,Bool.not_eq_true,Bool.not_eq_false,Bool.not_eq_eq_eq_not,Bool.not_true,Bool.not_false]at *
   all_goals first
    |exact Jm hn.symm
    |(exfalso;omega)
  ·have e2:decide (10<(s.size:Int))=false:=J1 (by omega)
   have e3:decide ((c.toNat:Int)≠36)=false:=J1 (by omega)
   have e4:decide ((d.toNat:Int)=48)=false:=J1 (by omega)
   have hn:freshS s=(d::r).all digitI:=by simp only[freshS,hb,hbad,if_false]
   repeat' first|refine Z1 ?_|refine Z2 ?_|refine Z5 ?_|refine Z7 ?_|refine J1c rfl rfl h0 rfl rfl rfl ?_|refine J1c rfl rfl h1 rfl rfl rfl ?_|refine Zh ?_|refine Zi ?_|refine Zm ?_|refine Zo ?_|refine J6 ?_|refine Zq ?_|refine J5 ?_|refine J8 ?_|refine J3 ?_
   refine Jq (ι:=Nat) (fun x=>envL [(0,vs s),(2,vb false),(3,vi x)]) (fun x=>stL []) (fun x=>1≤x∧x≤s.size∧((bs s).drop x).all digitI=freshS s) (fun x=>s.size-x) 1 (⟨by omega,by omega,by rw[hn,hb];simp⟩) (Jj rfl ⟨.refl _,.refl _,.refl _,trivial⟩ trivial) (fun _=>Nat.le_refl 0) ?_
   rintro k ⟨i1,i2,i3⟩
   rcases hx:(bs s)[k]? with _|x
   ·have hle:=Jo hx
    rw[J03]at hle
    have ek:decide ((k:Int)<(s.size:Int))=false:=J1 (by omega)
    rw[Jr hx]at i3
    repeat' first|refine Z1 ?_|refine Z2 ?_|refine Zo ?_|refine J6 ?_|refine Zq ?_|refine Jh ?_|refine Jb ?_|refine J3 ?_|refine Ja ?_|refine Zv ?_|refine Zt ?_
    exact Jm i3
   ·obtain⟨hd,hlt⟩:=Ji hx
    rw[J03]at hlt
    have ek:decide ((k:Int)<(s.size:Int))=true:=J0 (by omega)
    rw[hd,List.all_cons]at i3
    cases hdx:digitI x with
    |false=>
     have ex:(!digitI x)=true:=by rw[hdx];rfl
     repeat' first|refine Z1 ?_|refine Z2 ?_|refine Z5 ?_|refine J1c rfl rfl hx rfl rfl rfl ?_|refine Zc (J28 _) ?_|refine Zo ?_|refine J6 ?_|refine Zp ?_|refine J5 ?_|refine J8 ?_|refine Jb ?_|refine J3 ?_|refine J7 ?_|refine J9 ?_|refine Zt ?_
     exact Jm (by rw[←i3,hdx];rfl)
    |true=>
     have ex:(!digitI x)=false:=by rw[hdx];rfl
     repeat' first|refine Z1 ?_|refine Z2 ?_|refine Z5 ?_|refine J1c rfl rfl hx rfl rfl rfl ?_|refine Zc (J28 _) ?_|refine Zf ?_|refine Zo ?_|refine J6 ?_|refine Jf ?_|refine Zp ?_|refine Zq ?_|refine J5 ?_|refine J8 ?_|refine J3 ?_|refine J4 ?_
     rw[hdx,Bool.true_and]at i3
     exact⟨k+1,⟨by omega,by omega,i3⟩,by(try simp only);omega,Jl (Nat.zero_le _) ⟨⟨rfl,rfl⟩,⟨rfl,rfl⟩,⟨rfl,rfl⟩,trivial⟩ trivial⟩
theorem J1U (s:ByteArray):PFun X 128 [vs s] (vb (nameS s)):=by
 refine Jn Tryz.func128 rfl (by decide) Tryz.ntmps128 Tryz.results128 (by simp) rfl rfl ?_
 cases hp:plainS s with
 |true=>
  repeat' first|refine Z1 ?_|refine Z2 ?_|refine Z5 ?_|refine Z9 ?_|refine Zc (J61 s) ?_|refine Zl ?_|refine Zo ?_|refine Jb ?_|refine Zt ?_
  exact Jm (by rw[nameS,hp];rfl)
 |false=>
  repeat' first|refine Z1 ?_|refine Z2 ?_|refine Z5 ?_|refine Z7 ?_|refine Zc (J61 s) ?_|refine Zc (J9j s) ?_|refine Zi ?_|refine Zm ?_|refine Zo ?_|refine Jb ?_|refine Zt ?_
  exact Jm (by rw[nameS,hp];rfl)
end Go.Pm
/- Part of the proof: Sp2. -/
namespace Go.Pm
attribute [local irreducible] AR Ok inBlock andThen endQ aoper
set_option maxHeartbeats 1000000
open Go.Proofs
def sarityI (op:Int):Int:=if(1≤op∧op≤3)∨op=25 then 0 else if op=4∨op=5∨op=21∨op=22∨op=23 then 1 else if(6≤op∧op≤19)∨op=24 then 2 else if op=20 then 3 else -1
theorem J3t (op:Int):PFun X 188 [vi op] (vi (sarityI op)):=by
 refine Jn Tryz.func188 rfl (by decide) Tryz.ntmps188 Tryz.results188 (by simp) rfl rfl ?_
 repeat' first|refine Z1 ?_|refine Z2 ?_|refine Z5 ?_|refine Z7 ?_|refine Z8 ?_|refine Za (fun hc=>?_) (fun hc=>?_)|refine Zh ?_|refine Zi ?_|refine Zl ?_|refine Zm ?_|refine Zo ?_|refine J6 ?_|refine Jf ?_|refine Zp ?_|refine Zq ?_|refine Zr (fun hc=>?_) (fun hc=>?_)|refine J5 ?_|refine J8 ?_|refine Jb ?_|refine J3 ?_|refine J7 ?_|refine J9 ?_|refine J4 ?_|refine Zt ?_
 all_goals simp only[decide_eq_true_eq,decide_eq_false_iff_not,Bool.not_eq_true,Bool.not_eq_false,Bool.not_eq_eq_eq_not,Bool.not_true,Bool.not_false]at *
 all_goals (refine JA ?_;unfold sarityI;grind)
theorem J2o (n:Int):-1≤sarityI n∧sarityI n≤3:=by unfold sarityI;grind
def beginS (l:List Itm):Nat→Int→Int
 |0,need=>if need≤0 then 0 else -1
 |a+1,need=>if need≤0 then((a+1:Nat):Int)else match l[a]? with
  |none=>-1
  |some x=>if sarityI x.op<0 then -1 else beginS l a (need+sarityI x.op-1)
theorem J3x (l:List Itm) (e:Nat) (he:e≤l.length) (hl:l.length≤1048576):PFun X 189 [.d (.im (l.map eItm)),vi e] (vi (beginS l e 1)):=by
 refine Jn Tryz.func189 rfl (by decide) Tryz.ntmps189 Tryz.results189 (by simp) rfl rfl ?_
 repeat' first|refine Z1 ?_|refine Z2 ?_|refine Zo ?_|refine J6 ?_|refine J5 ?_
 refine Jq (ι:=Nat×Int) (fun x=>envL [(0,.d (.im (l.map eItm))),(4,vi 0),(5,vi x.1),(6,vi x.2)]) (fun x=>stL []) (fun x=>x.1≤l.length∧0≤x.2∧x.2≤1+3*(l.length-x.1)∧beginS l x.1 x.2=beginS l e 1) (fun x=>x.1) (e,1) (⟨he,by simp only;omega,by simp only;omega,rfl⟩) (Jj rfl ⟨.refl _,.refl _,.refl _,.refl _,trivial⟩ trivial) (fun _=>Nat.le_refl 0) ?_
 rintro⟨a,need⟩ ⟨i1,i2,i3,i4⟩
 simp only at i1 i2 i3 i4
 by_cases hn:0<need
 ·have en:decide (0<need)=true:=J0 hn
  cases a with
  |zero=>
   have e1:decide (((0:Nat):Int)-1<0)=true:=by decide
   repeat' first|refine Z1 ?_|refine Z2 ?_|refine Z5 ?_|refine Z9 ?_|refine Zg ?_|refine Zo ?_|refine J6 ?_|refine Zp ?_|refine J5 ?_|refine J8 ?_|refine Jb ?_|refine J3 ?_|refine J7 ?_|refine J9 ?_|refine Zt ?_
   exact JA (by rw[←i4];simp only[beginS];rw[if_neg (by omega)])
  |succ a=>
   have e1:decide ((a:Int)<0)=false:=J1 (by omega)
   have hlt:a<l.length:=by omega
   obtain⟨x,hx⟩:∃x,l[a]? = some x:=⟨l[a],by simp[hlt]⟩
   have hr:=J2o x.op
   simp only[beginS]at i4
   rw[if_neg (by omega),hx]at i4
   simp only at i4
   by_cases ha:sarityI x.op<0
   ·have ea:decide (sarityI x.op<0)=true:=J0 ha
    repeat' first|refine Z1 ?_|refine Z2 ?_|refine Z5 ?_|refine Z7 ?_|refine J8J (r:=(a:Int)) rfl rfl (by omega) (by omega) ?_|refine Zc (J3t _) ?_|refine Ze ?_|refine Zh ?_|refine Zi ?_|refine Zo ?_|refine J6 ?_|refine Zp ?_|refine J5 ?_|refine J8 ?_|refine Jb ?_|refine J3 ?_|refine J7 ?_|refine J9 ?_|refine Zt ?_
    exact JA (by rw[←i4,if_pos ha])
   ·have ea:decide (sarityI x.op<0)=false:=J1 ha
    repeat' first|refine Z1 ?_|refine Z2 ?_|refine Z3 ?_|refine Z5 ?_|refine Z7 ?_|refine J8J (r:=(a:Int)) rfl rfl (by omega) (by omega) ?_|refine Zc (J3t _) ?_|refine Ze ?_|refine Zf ?_|refine Zg ?_|refine Zh ?_|refine Zi ?_|refine Zo ?_|refine J6 ?_|refine Jf ?_|refine Zp ?_|refine Zq ?_|refine J5 ?_|refine J8 ?_|refine J3 ?_|refine J4 ?_
    rw[if_neg ha]at i4
    exact⟨(a,need+sarityI x.op-1),⟨by simp only;omega,by simp only;omega,by simp only;omega,i4⟩,by(try simp only);omega,Jl (Nat.zero_le _) ⟨⟨rfl,rfl⟩,⟨rfl,rfl⟩,⟨rfl,rfl⟩,⟨rfl,rfl⟩,trivial⟩ trivial⟩
 ·have en:decide (0<need)=false:=J1 hn
  repeat' first|refine Z1 ?_|refine Z2 ?_|refine Zo ?_|refine J6 ?_|refine Zq ?_|refine Jh ?_|refine Jb ?_|refine J3 ?_|refine Ja ?_|refine Zv ?_|refine Zt ?_
  refine JA ?_
  rw[←i4]
  cases a with
  |zero=>simp only[beginS];rw[if_pos (by omega)];rfl
  |succ a=>simp only[beginS];rw[if_pos (by omega)]
def itemS (x:Itm):Bool:=
 if(decide (x.op=3∨x.op=23∨x.op=24) != decide (x.name≠⟨#[]⟩))||(decide (x.op=3∨x.op=23∨x.op=24)&&!nameS x.name)then false
 else if x.op=1 then decide (0≤x.val)&&decide (x.val≤2147483647)
 else if x.op=2∨x.op=22∨x.op=23 then decide (0≤x.val)&&decide (x.val≤1)
 else if x.op=21 then decide (-2147483647≤x.val)&&decide (x.val≤2147483647)
 else if x.op=25 then true
 else decide (0≤x.val)&&decide (x.val≤0)
set_option maxHeartbeats 1000000 in
theorem J6T (x:Itm):PFun X 217 [.agg ((eItm x).map .d)] (vb (itemS x)):=by
 refine Jn Tryz.func217 rfl (by decide) Tryz.ntmps217 Tryz.results217 (by simp) rfl rfl ?_
 repeat' first|refine Z1 ?_|refine Z2 ?_|refine Z3 ?_|refine Z5 ?_|refine Z6 ?_|refine Z7 ?_|refine Z8 ?_|refine Z9 ?_|refine Za (fun hc=>?_) (fun hc=>?_)|refine Zb (fun hc=>?_) (fun hc=>?_)|refine Zc (J1U _) ?_|refine Zh ?_|refine Zi ?_|refine Zj ?_|refine Zl ?_|refine Zm ?_|refine Zo ?_|refine J6 ?_|refine Jf ?_|refine Zp ?_|refine Zq ?_|refine Zr (fun hc=>?_) (fun hc=>?_)|refine J5 ?_|refine J8 ?_|refine Jb ?_|refine J3 ?_|refine J7 ?_|refine J9 ?_|refine J4 ?_|refine Zt ?_
 all_goals (refine Jm ?_;unfold itemS;grind)
def codeS (l:List Itm) (most:Int):Bool:=if(l.length:Int)<1∨most<(l.length:Int)∨beginS l l.length 1≠0 then false else l.all itemS
theorem J7j (l:List Itm) (most:Int) (hl:l.length≤1048576):PFun X 197 [.d (.im (l.map eItm)),vi most] (vb (codeS l most)):=by
 refine Jn Tryz.func197 rfl (by decide) Tryz.ntmps197 Tryz.results197 (by simp) rfl rfl ?_
 by_cases hbad:(l.length:Int)<1∨most<(l.length:Int)∨beginS l l.length 1≠0
 ·have hn:codeS l most=false:=by simp only[codeS,hbad,if_true]
  repeat' first|refine Z1 ?_|refine Z2 ?_|refine Z5 ?_|refine Z7 ?_|refine Z9 ?_|refine Zb (fun hc=>?_) (fun hc=>?_)|refine Zc (J3x l l.length (Nat.le_refl _) hl) ?_|refine Zd ?_|refine Zh ?_|refine Zi ?_|refine Zl ?_|refine Zm ?_|refine Zo ?_|refine J6 ?_|refine Zp ?_|refine Zr (fun hc=>?_) (fun hc=>?_)|refine J5 ?_|refine J8 ?_|refine Jb ?_|refine J3 ?_|refine J7 ?_|refine Zt ?_
  all_goals simp only[decide_eq_true_eq,decide_eq_false_iff_not,Bool.not_eq_true,Bool.not_eq_false,Bool.not_eq_eq_eq_not,Bool.not_true,Bool.not_false]at *
  all_goals first
   |exact Jm hn.symm
   |(exfalso;omega)
 ·have e1:decide ((l.length:Int)<1)=false:=J1 (by omega)
  have e2:decide (most<(l.length:Int))=false:=J1 (by omega)
  have e3:decide (beginS l l.length 1≠0)=false:=J1 (by omega)
  have hn:codeS l most=l.all itemS:=by simp only[codeS,hbad,if_false]
  repeat' first|refine Z1 ?_|refine Z2 ?_|refine Z5 ?_|refine Z7 ?_|refine Zc (J3x l l.length (Nat.le_refl _) hl) ?_|refine Zd ?_|refine Zh ?_|refine Zi ?_|refine Zm ?_|refine Zo ?_|refine J6 ?_|refine Zq ?_|refine J5 ?_|refine J8 ?_|refine J3 ?_
  refine Jq (ι:=Nat) (fun x=>envL [(4,vb false),(23,.d (.im (l.map eItm))),(24,vi l.length),(25,vi x)]) (fun x=>stL []) (fun x=>x≤l.length∧(l.drop x).all itemS=codeS l most) (fun x=>l.length-x) 0 (⟨by omega,by rw[hn];simp⟩) (Jj rfl ⟨.refl _,.refl _,.refl _,.refl _,trivial⟩ trivial) (fun _=>Nat.le_refl 0) ?_
  rintro k ⟨i1,i2⟩
  rcases hx:l[k]? with _|x
  ·have hle:=Jo hx
   have ek:decide ((k:Int)<(l.length:Int))=false:=J1 (by omega)
   rw[Jr hx]at i2
   repeat' first|refine Z1 ?_|refine Z2 ?_|refine Zo ?_|refine J6 ?_|refine Zq ?_|refine Jh ?_|refine Jb ?_|refine J3 ?_|refine Ja ?_|refine Zv ?_|refine Zt ?_
   exact Jm i2
  ·obtain⟨hd,hlt⟩:=Ji hx
   have ek:decide ((k:Int)<(l.length:Int))=true:=J0 (by omega)
   rw[hd,List.all_cons]at i2
   cases hdx:itemS x with
   |false=>
    have ex:(!itemS x)=true:=by rw[hdx];rfl
    repeat' first|refine Z1 ?_|refine Z2 ?_|refine Z5 ?_|refine Zc (J6T x) ?_|refine Ze ?_|refine Zo ?_|refine J6 ?_|refine Zp ?_|refine J5 ?_|refine J8 ?_|refine Jb ?_|refine J3 ?_|refine J7 ?_|refine J9 ?_|refine Zt ?_
    exact Jm (by rw[←i2,hdx];rfl)
   |true=>
    have ex:(!itemS x)=false:=by rw[hdx];rfl
    repeat' first|refine Z1 ?_|refine Z2 ?_|refine Z5 ?_|refine Zc (J6T x) ?_|refine Ze ?_|refine Zf ?_|refine Zo ?_|refine J6 ?_|refine Jf ?_|refine Zp ?_|refine Zq ?_|refine J5 ?_|refine J8 ?_|refine J3 ?_|refine J4 ?_
    rw[hdx,Bool.true_and]at i2
    exact⟨k+1,⟨by omega,i2⟩,by(try simp only);omega,Jl (Nat.zero_le _) ⟨⟨rfl,rfl⟩,⟨rfl,rfl⟩,⟨rfl,rfl⟩,⟨rfl,rfl⟩,trivial⟩ trivial⟩
end Go.Pm
/- Part of the proof: Pl1. -/
namespace Go.Pm
theorem JcA (s:ByteArray):hasWord kwS s=inS kwSpec s:=by
 have h1:∀x∈kwBytes,x∈kwSpecBytes:=by decide
 have h2:∀x∈kwSpecBytes,x∈kwBytes:=by decide
 rw[Bool.eq_iff_iff]
 simp only[hasWord,inS,List.any_eq_true,decide_eq_true_eq]
 constructor
 ·rintro⟨x,hx,rfl⟩
  obtain⟨y,hy,rfl⟩:=List.mem_map.1 hx
  exact⟨_,List.mem_map.2 ⟨y,h1 y hy,rfl⟩,rfl⟩
 ·rintro⟨x,hx,rfl⟩
  obtain⟨y,hy,rfl⟩:=List.mem_map.1 hx
  exact⟨_,List.mem_map.2 ⟨y,h2 y hy,rfl⟩,rfl⟩
theorem J45 (s:ByteArray):nameI s=nameS s:=by
 have hsz:=J03 s
 unfold nameI nameS plainS freshS
 rw[JcA]
 rcases hb:bs s with _|⟨c,_|⟨d,r⟩⟩
 ·rfl
 ·simp only[hb,List.length_cons,List.length_nil]at hsz
  by_cases h36:(c.toNat:Int)=36
  ·have hl:letterI c=false:=by simp[letterI,h36]
   simp[h36,hl]
  ·by_cases hbig:40<(s.size:Int)
   ·simp[hbig]
   ·simp only[hbig,h36,if_false,List.all_cons,List.all_nil,Bool.or_false,Bool.and_true]
    cases hl:letterI c<;>simp[tailI,hl]
 ·simp only[hb,List.length_cons]at hsz
  by_cases hbig:40<(s.size:Int)
  ·have h10:10<(s.size:Int):=by omega
   simp[hbig,h10]
  ·by_cases h36:(c.toNat:Int)=36
   ·have hl:letterI c=false:=by simp[letterI,h36]
    simp[hbig,h36,hl]
   ·simp only[hbig,h36,if_false,List.all_cons]
    cases hl:letterI c<;>simp[tailI,hl,h36]
def opOK (x:Itm):Prop:=1≤x.op∧x.op≤24
theorem JbG (x:Itm):itemI x=(itemS x&&(!decide (x.op=25))&&decide (1≤x.op∧x.op≤24)):=by
 unfold itemI itemS nmI
 rw[J45]
 have hns:x.name=⟨#[]⟩→nameS x.name=false:=fun h=>by rw[h];rfl
 grind
end Go.Pm
/- Part of the proof: Pl2. -/
namespace Go.Pm
def postG:Int→List Itm→Int→Bool
 |h,[],t=>decide (h=t)
 |h,x::l,t=>if h<arityI x.op then false else postG (h+(1-arityI x.op)) l t
theorem J5L (l:List Itm):∀h,postI h l=postG h l 1:=by
 induction l with
 |nil=>intro h;rfl
 |cons x l ih=>intro h;simp only[postI,postG,ih]
theorem J4B (x:Itm) (t:Int):∀(l:List Itm) (h:Int),postG h (l++[x]) t=(postG h l (t+arityI x.op-1)&&decide (1≤t))
 |[],h=>by
  simp only[List.nil_append,postG]
  by_cases h1:h<arityI x.op
  ·rw[if_pos h1]
   by_cases h2:h=t+arityI x.op-1
   ·simp only[h2,decide_true,Bool.true_and]
    symm;rw[decide_eq_false_iff_not];omega
   ·simp[h2]
  ·rw[if_neg h1,Bool.eq_iff_iff]
   simp only[decide_eq_true_eq,Bool.and_eq_true]
   constructor
   ·intro h2;omega
   ·intro h2;omega
 |y::l,h=>by
  simp only[List.cons_append,postG]
  split
  ·rfl
  ·exact J4B x t l _
theorem J68:∀(l:List Itm) (h t:Int),l≠[]→postG h l t=true→1≤t
 |[],h,t,hl,_=>absurd rfl hl
 |[x],h,t,_,hp=>by
  simp only[postG]at hp
  split at hp
  ·cases hp
  ·simp only[decide_eq_true_eq]at hp;omega
 |x::y::l,h,t,_,hp=>by
  simp only[postG]at hp
  split at hp
  ·cases hp
  ·exact J68 (y::l) _ t (by simp) (by simpa only[postG]using hp)
theorem J7a {op:Int} (h:1≤op∧op≤25):sarityI op=arityI op:=by unfold sarityI arityI;grind
theorem J2y (l:List Itm) (hall:∀x∈l,1≤x.op∧x.op≤25):∀(n:Nat) (need:Int),n≤l.length→1≤need→(beginS l n need=0↔postG 0 (l.take n) need=true)
 |0,need,_,hn=>by
  simp only[beginS,List.take_zero,postG,decide_eq_true_eq]
  rw[if_neg (by omega)]
  omega
 |n+1,need,hl,hn=>by
  have hlt:n<l.length:=by omega
  have hx:l[n]? = some l[n]:=by simp[hlt]
  have hop:=hall l[n] (List.getElem_mem hlt)
  have har:=J0T l[n].op
  simp only[beginS]
  rw[if_neg (by omega),hx]
  simp only
  rw[J7a hop,if_neg (by omega),List.take_add_one,hx]
  simp only[Option.toList_some]
  rw[J4B]
  simp only[Bool.and_eq_true,decide_eq_true_eq,hn,and_true]
  by_cases h1:1≤need+arityI l[n].op-1
  ·exact J2y l hall n _ (by omega) h1
  ·have h0:need+arityI l[n].op-1=0:=by omega
   rw[h0]
   cases n with
   |zero=>simp[beginS,postG]
   |succ m=>
    simp only[beginS]
    rw[if_pos (by omega)]
    constructor
    ·intro h;omega
    ·intro h
     have:=J68 _ _ _ (by intro he;have:=congrArg List.length he;simp only[List.length_take,List.length_nil]at this;omega) h
     omega
theorem J66 (l:List Itm):∀(n:Nat) (need:Int),beginS l n need=0→∀j x,j<n→l[j]? = some x→0≤sarityI x.op
 |0,need,_,j,x,hj,_=>by omega
 |n+1,need,h,j,x,hj,hx=>by
  simp only[beginS]at h
  split at h
  ·omega
  ·split at h
   ·omega
   ·rename_i y hy
    split at h
    ·omega
    ·rename_i hs
     by_cases hjn:j=n
     ·subst hjn;rw[hy]at hx;cases hx;omega
     ·exact J66 l n _ h j x (by omega) hx
end Go.Pm
/- Part of the proof: Tx1. -/
namespace Go.Pm
inductive Tm where
 |mk (x:Itm) (i:Nat) (ks:List Tm)
mutual
def flat:Tm→List Itm
 |.mk x _ ks=>flatL ks++[x]
def flatL:List Tm→List Itm
 |[]=>[]
 |t::ts=>flat t++flatL ts
end
mutual
def wfT:Tm→Prop
 |.mk x _ ks=>(ks.length:Int)=sarityI x.op∧wfL ks
def wfL:List Tm→Prop
 |[]=>True
 |t::ts=>wfT t∧wfL ts
end
theorem J1D:∀a b:List Tm,flatL (a++b)=flatL a++flatL b
 |[],_=>rfl
 |t::a,b=>by simp only[List.cons_append,flatL,J1D a b,List.append_assoc]
theorem J6E:∀{a b:List Tm},wfL (a++b)↔wfL a∧wfL b
 |[],_=>by simp[wfL]
 |t::a,b=>by simp only[List.cons_append,wfL,J6E (a:=a),and_assoc]
theorem J88 (l:List Itm) (n:Nat):beginS l n 0=(n:Int):=by cases n<;>rfl
mutual
theorem beginT (l:List Itm):∀(t:Tm),wfT t→∀(P R:List Itm),l=P++(flat t++R)→∀need:Int,1≤need→beginS l (P.length+(flat t).length) need=beginS l P.length (need-1)
 |.mk x i ks,hw,P,R,hl,need,hn=>by
  have hw':(ks.length:Int)=sarityI x.op∧wfL ks:=by simpa only[wfT]using hw
  have hlen:(flat (.mk x i ks)).length=(flatL ks).length+1:=by simp only[flat,List.length_append,List.length_singleton]
  have hl2:l=P++(flatL ks++([x]++R)):=by rw[hl];simp only[flat,List.append_assoc]
  rw[hlen,←Nat.add_assoc]
  simp only[beginS]
  rw[if_neg (by omega)]
  have hx:l[P.length+(flatL ks).length]? = some x:=by
   rw[hl2,List.getElem?_append_right (by omega),Nat.add_sub_cancel_left,List.getElem?_append_right (by omega),Nat.sub_self]
   rfl
  rw[hx]
  simp only
  rw[if_neg (by omega),beginL l ks hw'.2 P ([x]++R) hl2 _ (by omega)]
  congr 1
  omega
theorem beginL (l:List Itm):∀(ts:List Tm),wfL ts→∀(P R:List Itm),l=P++(flatL ts++R)→∀need:Int,(ts.length:Int)≤need→beginS l (P.length+(flatL ts).length) need=beginS l P.length (need-ts.length)
 |[],_,P,R,hl,need,hn=>by simp[flatL]
 |t::ts,hw,P,R,hl,need,hn=>by
  have hw':wfT t∧wfL ts:=by simpa only[wfL]using hw
  have h1:l=(P++flat t)++(flatL ts++R):=by rw[hl];simp only[flatL,List.append_assoc]
  have h2:l=P++(flat t++(flatL ts++R)):=by rw[hl];simp only[flatL,List.append_assoc]
  have e1:P.length+(flatL (t::ts)).length=(P++flat t).length+(flatL ts).length:=by simp only[flatL,List.length_append];omega
  have hn':(ts.length:Int)+1≤need:=by simpa using hn
  rw[e1,beginL l ts hw'.2 _ _ h1 need (by omega),List.length_append,beginT l t hw'.1 P _ h2 _ (by omega)]
  congr 1
  simp only[List.length_cons]
  omega
end
theorem J8g {l:List Itm} {t:Tm} (hw:wfT t) {P R:List Itm} (hl:l=P++(flat t++R)):beginS l (P.length+(flat t).length) 1=(P.length:Int):=by
 rw[beginT l t hw P R hl 1 (by omega)];exact J88 l _
def runT:Nat→List Tm→List Itm→List Tm
 |_,st,[]=>st
 |i,st,x::l=>runT (i+1) (st.take (st.length-(arityI x.op).toNat)++[.mk x i (st.drop (st.length-(arityI x.op).toNat))]) l
theorem J7D:∀(l:List Itm) (i:Nat) (st:List Tm),(∀x∈l,1≤x.op∧x.op≤25)→wfL st→postI st.length l=true→∃t,runT i st l=[t]∧wfT t∧flat t=flatL st++l
 |[],i,st,_,hw,h=>by
  have h1:(st.length:Int)=1:=by simpa[postI]using h
  match st,h1 with
  |[t],_=>exact⟨t,rfl,by simpa[wfL]using hw,by simp[flatL]⟩
 |x::l,i,st,ho,hw,h=>by
  simp only[postI]at h
  split at h
  ·cases h
  rename_i hn
  have har:=J0T x.op
  obtain⟨n,hnn⟩:∃n:Nat,arityI x.op=(n:Int):=⟨(arityI x.op).toNat,by omega⟩
  have hsp:st.take (st.length-n)++st.drop (st.length-n)=st:=List.take_append_drop _ _
  have hw2:=J6E.1 (hsp.symm▸hw)
  have hdl:(st.drop (st.length-n)).length=n:=by rw[List.length_drop];omega
  have hnew:wfL (st.take (st.length-n)++[.mk x i (st.drop (st.length-n))]):=J6E.2 ⟨hw2.1,by
   simp only[wfL,wfT,and_true]
   exact⟨by rw[hdl,J7a (ho x (by simp)),hnn],hw2.2⟩⟩
  have hlen:((st.take (st.length-n)++[Tm.mk x i (st.drop (st.length-n))]).length:Int)=st.length+(1-arityI x.op):=by
   rw[List.length_append,List.length_take,List.length_singleton,hnn];omega
  rw[←hlen]at h
  obtain⟨t,h1,h2,h3⟩:=J7D l (i+1) _ (fun y hy=>ho y (by simp[hy])) hnew h
  refine⟨t,?_,h2,?_⟩
  ·simp only[runT]
   rw[hnn,Int.toNat_natCast]
   exact h1
  ·rw[h3,J1D]
   conv=>rhs;rw[←hsp,J1D]
   simp only[flatL,flat,List.append_assoc,List.append_nil,List.singleton_append]
end Go.Pm
/- Part of the proof: Se1. -/
namespace Go.Pm
def w32 (v:Int):Int:=IntKind.i32.wrap v
def bitI (b:Bool):Int:=if b then 1 else 0
def inR (v:Int):Prop:=-2147483648≤v∧v≤2147483647
theorem J0s (v:Int):inR (w32 v):=by
 unfold w32 inR
 simp[IntKind.wrap,IntKind.bits,IntKind.signed]
 split<;>omega
theorem Jcd {v:Int} (h:inR v):w32 v=v:=by
 unfold inR at h
 unfold w32
 simp[IntKind.wrap,IntKind.bits,IntKind.signed]
 split<;>omega
theorem J06 (b:Bool):inR (bitI b):=by cases b<;>simp[bitI,inR]
def ap2 (op a b:Int):Int:=
 if op=6 then w32 (a+b)else if op=7 then w32 (a-b)else if op=8 then w32 (a*b)
 else if op=9 then(if b=0 then 0 else w32 (a.tdiv b))else if op=10 then(if b=0 then 0 else a.tmod b)
 else if op=11 then bitI (decide (a=b))else if op=12 then bitI (decide (a≠b))else if op=13 then bitI (decide (a<b))else if op=14 then bitI (decide (a≤b))
 else if op=15 then bitI (decide (b<a))else if op=16 then bitI (decide (b≤a))else if op=17 then bitI (decide (a≠0)&&decide (b≠0))else if op=18 then bitI (decide (a≠0)||decide (b≠0))
 else bitI (decide (a≠0) != decide (b≠0))
def nth (l:List Int) (i:Nat):Int:=l.getD i 0
def apV (op:Int) (l:List Int):Int:=
 if op=4 then w32 (-(nth l 0))else if op=5 then bitI (decide (nth l 0=0))else if op=20 then(if nth l 0≠0 then nth l 1 else nth l 2)else ap2 op (nth l 0) (nth l 1)
def evI (ρ:ByteArray→Int) (mem:List Int) (x:Itm) (l:List Int):Int:=
 if x.op=1∨x.op=2 then x.val else if x.op=3 then ρ x.name else if x.op=25 then nth mem x.val.toNat else apV x.op l
mutual
def evT (ρ:ByteArray→Int) (mem:List Int):Tm→Int
 |.mk x _ ks=>evI ρ mem x (evTs ρ mem ks)
def evTs (ρ:ByteArray→Int) (mem:List Int):List Tm→List Int
 |[]=>[]
 |t::ts=>evT ρ mem t::evTs ρ mem ts
end
theorem J6Z (ρ:ByteArray→Int) (mem:List Int):∀ts:List Tm,evTs ρ mem ts=ts.map (evT ρ mem)
 |[]=>rfl
 |t::ts=>by simp only[evTs,List.map_cons,J6Z ρ mem ts]
theorem J7Z (ρ:ByteArray→Int) (mem:List Int) (x:Itm) (i:Nat) (ks:List Tm):evT ρ mem (.mk x i ks)=evI ρ mem x (ks.map (evT ρ mem)):=by simp only[evT,J6Z]
theorem J00 {l:List Int} (h:∀v∈l,inR v) (i:Nat):inR (nth l i):=by
 unfold nth
 rw[List.getD_eq_getElem?_getD]
 cases hx:l[i]? with
 |none=>simp[inR]
 |some v=>exact h v (List.mem_of_getElem? hx)
theorem J1J {a b:Int} (ha:inR a) (hb:inR b) (h0:b≠0):inR (a.tmod b):=by
 have h1:=Int.natAbs_tmod a b
 have h2:a.natAbs % b.natAbs<b.natAbs:=Nat.mod_lt _ (by omega)
 unfold inR at *
 omega
theorem JG {p:Prop} [Decidable p] {a b:Int} (h1:p→inR a) (h2:¬p→inR b):inR (if p then a else b):=by
 split
 ·exact h1 ‹_›
 ·exact h2 ‹_›
theorem J5x {op a b:Int} (ha:inR a) (hb:inR b):inR (ap2 op a b):=by
 have h0:inR 0:=by simp[inR]
 unfold ap2
 refine JG (fun _=>J0s _) fun _=>JG (fun _=>J0s _) fun _=>JG (fun _=>J0s _) fun _=>JG (fun _=>JG (fun _=>h0) fun _=>J0s _) fun _=>JG (fun _=>JG (fun _=>h0) fun h=>J1J ha hb h) fun _=>?_
 exact JG (fun _=>J06 _) fun _=>JG (fun _=>J06 _) fun _=>JG (fun _=>J06 _) fun _=>JG (fun _=>J06 _) fun _=>JG (fun _=>J06 _) fun _=>JG (fun _=>J06 _) fun _=>JG (fun _=>J06 _) fun _=>JG (fun _=>J06 _) fun _=>J06 _
theorem J9d {op:Int} {l:List Int} (h:∀v∈l,inR v):inR (apV op l):=by
 unfold apV
 exact JG (fun _=>J0s _) fun _=>JG (fun _=>J06 _) fun _=>JG (fun _=>JG (fun _=>J00 h _) fun _=>J00 h _) fun _=>J5x (J00 h 0) (J00 h 1)
theorem Jce {a b:Int} (ha:inR a) (hb:inR b) (h0:b≠0):w32 (a-b*(a.tdiv b))=a.tmod b:=by
 have:a-b*a.tdiv b=a.tmod b:=by have:=Int.mul_tdiv_add_tmod a b;omega
 rw[this]
 exact Jcd (J1J ha hb h0)
end Go.Pm
/- Part of the proof: Ms1. -/
namespace Go.Pm
attribute [local irreducible] AR Ok inBlock andThen endQ aoper
set_option maxHeartbeats 1000000
open Go.Proofs
def sNm (x:Slt):ByteArray:=x.name
def nmsC (c:Cls):List ByteArray:=c.ins.map sNm++c.outs.map sNm++c.locs
theorem J2P (c:Cls):(nmsC c).length=c.ins.length+c.outs.length+c.locs.length:=by simp[nmsC,Nat.add_assoc]
theorem J3G {c:Cls} (hw:wCls c≤1048576):c.ins.length+c.outs.length+c.locs.length+c.mems.length+c.insts.length+c.body.length≤1048576:=by simp only[wCls,wL]at hw;omega
theorem J0z (c:Cls) (hw:wCls c≤1048576):PFun X 110 [.agg ((eCls c).map .d)] (.d (.im ((nmsC c).map eStr))):=by
 have hl:=J3G hw
 refine Jn Tryz.func110 rfl (by decide) Tryz.ntmps110 Tryz.results110 (by simp) rfl rfl ?_
 repeat' first|refine Z1 ?_|refine Z2 ?_|refine Z3 ?_|refine Z5 ?_|refine Z6 ?_|refine Z7 ?_|refine Z8 ?_|refine Z9 ?_|refine Za (fun hc=>?_) (fun hc=>?_)|refine Zb (fun hc=>?_) (fun hc=>?_)|refine J3v rfl rfl rfl rfl rfl rfl rfl ?_|refine Zd ?_|refine Ze ?_|refine Zf ?_|refine Zg ?_|refine Zh ?_|refine Zi ?_|refine Zj ?_|refine Zk ?_|refine Zl ?_|refine Zm ?_|refine Zn (fun hc=>?_) (fun hc=>?_)|refine Zo ?_|refine J6 ?_|refine Jf ?_|refine Zp ?_|refine Zq ?_|refine Zr (fun hc=>?_) (fun hc=>?_)|refine J5 ?_|refine Jh ?_|refine J8 ?_|refine Jb ?_|refine J3 ?_|refine Ja ?_|refine Zs ?_|refine Zv ?_|refine J7 ?_|refine J9 ?_|refine J4 ?_|refine Zt ?_|refine Zu ?_
 refine JX (ι:=Nat×List ByteArray) (fun x_=>envL [(1,.ref 0 0),(3,.sl 1 2 0 x_.2.length),(10,.d (.im (c.ins.map eSlt))),(11,vi c.ins.length),(12,vi x_.1)]) (fun x_=>stL [some (.var ((eCls c).map .d)),some (.row 2 9 1 (im2 eStr x_.2)),none]) (fun x_=>x_.1≤c.ins.length∧x_.2=(c.ins.take x_.1).map sNm) (fun x_=>c.ins.length-x_.1) (0,[]) (⟨Nat.zero_le _,rfl⟩) Turn.refl (Js [(2,1)] rfl rfl rfl ⟨⟨rfl,rfl⟩,⟨rfl,rfl⟩,⟨rfl,rfl⟩,⟨rfl,rfl⟩,⟨rfl,rfl⟩,trivial⟩ ⟨⟨rfl,rfl⟩,⟨Jd rfl (by first|exact Jg _ _ _|rfl),Je rfl,Jc _ _ _⟩,trivial⟩) ?_
 rintro⟨k,L⟩ ⟨i1,i2⟩
 simp only at i1 i2
 have hL:L.length≤c.ins.length:=by rw[i2];simp;omega
 rcases hx:c.ins[k]? with _|x
 ·have hle:=Jo hx
  have ek:decide ((k:Int)<(c.ins.length:Int))=false:=J1 (by omega)
  rw[List.take_of_length_le hle]at i2
  repeat' first|refine Z1 ?_|refine Z2 ?_|refine Z3 ?_|refine Z4 ?_|refine Z5 ?_|refine Z6 ?_|refine Z7 ?_|refine Z8 ?_|refine Z9 ?_|refine Za (fun hc=>?_) (fun hc=>?_)|refine Zb (fun hc=>?_) (fun hc=>?_)|refine Zd ?_|refine Ze ?_|refine Zf ?_|refine Zg ?_|refine Zh ?_|refine Zi ?_|refine Zj ?_|refine Zk ?_|refine Zl ?_|refine Zm ?_|refine Zn (fun hc=>?_) (fun hc=>?_)|refine Zo ?_|refine J6 ?_|refine Jf ?_|refine Zp ?_|refine Zq ?_|refine Zr (fun hc=>?_) (fun hc=>?_)|refine J5 ?_|refine Jh ?_|refine J8 ?_|refine Jb ?_|refine J3 ?_|refine Ja ?_|refine Zs ?_|refine Zv ?_|refine J7 ?_|refine J9 ?_|refine J4 ?_|refine Zt ?_|refine Zu ?_
  refine JX (ι:=Nat×List ByteArray) (fun x_=>envL [(1,.ref 0 0),(3,.sl 1 3 0 x_.2.length),(23,.d (.im (c.outs.map eSlt))),(24,vi c.outs.length),(25,vi x_.1)]) (fun x_=>stL [some (.var ((eCls c).map .d)),some (.row 3 9 1 (im2 eStr x_.2)),none,none]) (fun x_=>x_.1≤c.outs.length∧x_.2=L++(c.outs.take x_.1).map sNm) (fun x_=>c.outs.length-x_.1) (0,L) (⟨Nat.zero_le _,by simp⟩) Turn.refl (Js [(3,2)] rfl rfl rfl ⟨⟨rfl,rfl⟩,⟨rfl,rfl⟩,⟨rfl,rfl⟩,⟨rfl,rfl⟩,⟨rfl,rfl⟩,trivial⟩ ⟨⟨rfl,rfl⟩,⟨Jd rfl (by first|exact Jg _ _ _|rfl),Je rfl,Jc _ _ _⟩,trivial⟩) ?_
  rintro⟨q,M⟩ ⟨j1,j2⟩
  simp only at j1 j2
  have hM:M.length≤c.ins.length+c.outs.length:=by rw[j2];simp;omega
  rcases hy:c.outs[q]? with _|y
  ·have hle2:=Jo hy
   have eq:decide ((q:Int)<(c.outs.length:Int))=false:=J1 (by omega)
   rw[List.take_of_length_le hle2]at j2
   repeat' first|refine Z1 ?_|refine Z2 ?_|refine Z3 ?_|refine Z4 ?_|refine Z5 ?_|refine Z6 ?_|refine Z7 ?_|refine Z8 ?_|refine Z9 ?_|refine Za (fun hc=>?_) (fun hc=>?_)|refine Zb (fun hc=>?_) (fun hc=>?_)|refine Yl (e:=eStr) (l:=M) c.locs ?_|refine Zd ?_|refine Ze ?_|refine Zf ?_|refine Zg ?_|refine Zh ?_|refine Zi ?_|refine Zj ?_|refine Zk ?_|refine Zl ?_|refine Zm ?_|refine Zn (fun hc=>?_) (fun hc=>?_)|refine J0I (e:=eStr) (l:=M++c.locs) rfl 2 rfl rfl rfl ?_|refine Zo ?_|refine J6 ?_|refine Jf ?_|refine Zp ?_|refine Zq ?_|refine Zr (fun hc=>?_) (fun hc=>?_)|refine J5 ?_|refine Jh ?_|refine J8 ?_|refine Jb ?_|refine J3 ?_|refine Ja ?_|refine Zs ?_|refine Zv ?_|refine J7 ?_|refine J9 ?_|refine J4 ?_|refine Zt ?_|refine Zu ?_
   rw[j2,i2];rfl
  obtain⟨hd,hlt⟩:=Ji hy
  have eq:decide ((q:Int)<(c.outs.length:Int))=true:=J0 (by omega)
  repeat' first|refine Z1 ?_|refine Z2 ?_|refine Z3 ?_|refine Z4 ?_|refine Z5 ?_|refine Z6 ?_|refine Z7 ?_|refine Z8 ?_|refine Z9 ?_|refine Za (fun hc=>?_) (fun hc=>?_)|refine Zb (fun hc=>?_) (fun hc=>?_)|refine Yl (e:=eStr) (l:=M) [y.name] ?_|refine Zd ?_|refine Ze ?_|refine Zf ?_|refine Zg ?_|refine Zh ?_|refine Zi ?_|refine Zj ?_|refine Zk ?_|refine Zl ?_|refine Zm ?_|refine Zn (fun hc=>?_) (fun hc=>?_)|refine Zo ?_|refine J6 ?_|refine Jf ?_|refine Zp ?_|refine Zq ?_|refine Zr (fun hc=>?_) (fun hc=>?_)|refine J5 ?_|refine Jh ?_|refine J8 ?_|refine Jb ?_|refine J3 ?_|refine Ja ?_|refine Zs ?_|refine Zv ?_|refine J7 ?_|refine J9 ?_|refine J4 ?_|refine Zt ?_|refine Zu ?_
  exact⟨(q+1,M++[y.name]),⟨hlt,by rw[j2,JT hy,List.map_append,List.append_assoc];rfl⟩,by(try simp only);omega,Js [(3,6)] rfl rfl rfl ⟨⟨rfl,rfl⟩,⟨rfl,rfl⟩,⟨rfl,rfl⟩,⟨rfl,rfl⟩,⟨rfl,rfl⟩,trivial⟩ ⟨⟨rfl,rfl⟩,⟨Jd rfl (by first|exact Jg _ _ _|rfl),Je rfl,Jc _ _ _⟩,trivial⟩⟩
 obtain⟨hd,hlt⟩:=Ji hx
 have ek:decide ((k:Int)<(c.ins.length:Int))=true:=J0 (by omega)
 repeat' first|refine Z1 ?_|refine Z2 ?_|refine Z3 ?_|refine Z4 ?_|refine Z5 ?_|refine Z6 ?_|refine Z7 ?_|refine Z8 ?_|refine Z9 ?_|refine Za (fun hc=>?_) (fun hc=>?_)|refine Zb (fun hc=>?_) (fun hc=>?_)|refine Yl (e:=eStr) (l:=L) [x.name] ?_|refine Zd ?_|refine Ze ?_|refine Zf ?_|refine Zg ?_|refine Zh ?_|refine Zi ?_|refine Zj ?_|refine Zk ?_|refine Zl ?_|refine Zm ?_|refine Zn (fun hc=>?_) (fun hc=>?_)|refine Zo ?_|refine J6 ?_|refine Jf ?_|refine Zp ?_|refine Zq ?_|refine Zr (fun hc=>?_) (fun hc=>?_)|refine J5 ?_|refine Jh ?_|refine J8 ?_|refine Jb ?_|refine J3 ?_|refine Ja ?_|refine Zs ?_|refine Zv ?_|refine J7 ?_|refine J9 ?_|refine J4 ?_|refine Zt ?_|refine Zu ?_
 exact⟨(k+1,L++[x.name]),⟨hlt,by rw[i2,JT hx,List.map_append];rfl⟩,by(try simp only);omega,Js [(2,5)] rfl rfl rfl ⟨⟨rfl,rfl⟩,⟨rfl,rfl⟩,⟨rfl,rfl⟩,⟨rfl,rfl⟩,⟨rfl,rfl⟩,trivial⟩ ⟨⟨rfl,rfl⟩,⟨Jd rfl (by first|exact Jg _ _ _|rfl),Je rfl,Jc _ _ _⟩,trivial⟩⟩
end Go.Pm
/- Part of the proof: Ms2. -/
namespace Go.Pm
attribute [local irreducible] AR Ok inBlock andThen endQ aoper
set_option maxHeartbeats 1000000
open Go.Proofs
def placeS (s:ByteArray):Nat→List ByteArray→Int
 |_,[]=>-1
 |i,x::l=>if x=s then(i:Int)else placeS s (i+1) l
theorem J0E (l:List ByteArray) (s:ByteArray) (hl:l.length≤1048576):PFun X 88 [.d (.im (l.map eStr)),vs s] (vi (placeS s 0 l)):=by
 refine Jn Tryz.func88 rfl (by decide) Tryz.ntmps88 Tryz.results88 (by simp) rfl rfl ?_
 repeat' first|refine Z1 ?_|refine Z2 ?_|refine Z5 ?_|refine Zd ?_|refine Zo ?_|refine J6 ?_|refine J5 ?_
 refine Jq (ι:=Nat) (fun x=>envL [(1,vs s),(7,.d (.im (l.map eStr))),(8,vi l.length),(9,vi x)]) (fun x=>stL []) (fun x=>x≤l.length∧placeS s x (l.drop x)=placeS s 0 l) (fun x=>l.length-x) 0 (⟨Nat.zero_le _,rfl⟩) (Jj rfl ⟨.refl _,.refl _,.refl _,.refl _,trivial⟩ trivial) (fun _=>Nat.le_refl 0) ?_
 rintro k ⟨i1,i2⟩
 rcases hx:l[k]? with _|x
 ·have hle:=Jo hx
  have ek:decide ((k:Int)<(l.length:Int))=false:=J1 (by omega)
  rw[Jr hx]at i2
  repeat' first|refine Z1 ?_|refine Z2 ?_|refine Zo ?_|refine J6 ?_|refine Zq ?_|refine Jh ?_|refine Jb ?_|refine J3 ?_|refine Ja ?_|refine Zv ?_|refine Zt ?_
  exact JA i2
 obtain⟨hd,hlt⟩:=Ji hx
 have ek:decide ((k:Int)<(l.length:Int))=true:=J0 (by omega)
 rw[hd]at i2
 simp only[placeS]at i2
 by_cases h:x=s
 ·have e1:decide (x=s)=true:=J0 h
  rw[if_pos h]at i2
  repeat' first|refine Z1 ?_|refine Z2 ?_|refine Z5 ?_|refine Ze ?_|refine Zo ?_|refine J6 ?_|refine Zp ?_|refine J5 ?_|refine J8 ?_|refine Jb ?_|refine J3 ?_|refine J7 ?_|refine J9 ?_|refine Zt ?_
  exact JA i2
 ·have e1:decide (x=s)=false:=J1 h
  rw[if_neg h]at i2
  repeat' first|refine Z1 ?_|refine Z2 ?_|refine Z5 ?_|refine Ze ?_|refine Zf ?_|refine Zo ?_|refine J6 ?_|refine Jf ?_|refine Zp ?_|refine Zq ?_|refine J5 ?_|refine J8 ?_|refine J3 ?_|refine J4 ?_
  exact⟨k+1,⟨hlt,i2⟩,by(try simp only);omega,Jl (Nat.zero_le _) ⟨⟨rfl,rfl⟩,⟨rfl,rfl⟩,⟨rfl,rfl⟩,⟨rfl,rfl⟩,trivial⟩ trivial⟩
def setS (c:Cls) (x:ByteArray):Bool:=decide ((c.ins.length:Int)≤placeS x 0 (nmsC c))
theorem J4i {c:Cls} (hw:wCls c≤1048576):(nmsC c).length≤1048576:=by have:=J3G hw;rw[J2P];omega
theorem J38 (c:Cls) (x:ByteArray) (hw:wCls c≤1048576):PFun X 167 [.agg ((eCls c).map .d),vs x] (vb (setS c x)):=by
 have hl:=J4i hw
 refine Jn Tryz.func167 rfl (by decide) Tryz.ntmps167 Tryz.results167 (by simp) rfl rfl ?_
 repeat' first|refine Z1 ?_|refine Z2 ?_|refine Zw ?_|refine Zx ?_|refine Zz (Zc (J0z c hw) ⟨rfl,rfl⟩) ?_|refine Zz (Zc (J0E (nmsC c) x hl) ⟨rfl,rfl⟩) ?_|refine Zz (Zd ⟨rfl,rfl⟩) ?_|refine Zo ?_|refine J6 ?_|refine Jx Jp (by decide +kernel) ?_|refine Jb ?_|refine Zt ?_
 rfl
def itmS (c:Cls) (t:Itm):Bool:=if(20<t.op∧t.op≠25)∨(t.op=3∧inS (nmsC c) t.name=false)∨(t.op=25∧(t.val<0∨(c.mems.length:Int)≤t.val))then false else true
def mcodeS (c:Cls) (l:List Itm):Bool:=codeS l 6000&&l.all (itmS c)
theorem J30 (c:Cls) (l:List Itm) (hw:wCls c≤1048576) (hl:l.length≤1048576):PFun X 168 [.agg ((eCls c).map .d),.d (.im (l.map eItm))] (vb (mcodeS c l)):=by
 have hn:=J4i hw
 refine Jn Tryz.func168 rfl (by decide) Tryz.ntmps168 Tryz.results168 (by simp) rfl rfl ?_
 cases hc:codeS l 6000 with
 |false=>
  have e1:(!codeS l 6000)=true:=by rw[hc];rfl
  repeat' first|refine Z1 ?_|refine Z2 ?_|refine Z5 ?_|refine Zc (J7j l 6000 hl) ?_|refine Zo ?_|refine J6 ?_|refine Zp ?_|refine Jb ?_|refine J7 ?_|refine Zt ?_
  exact Jm (by rw[mcodeS,hc];rfl)
 |true=>
 have e1:(!codeS l 6000)=false:=by rw[hc];rfl
 have hm:l.all (itmS c)=mcodeS c l:=by rw[mcodeS,hc];rfl
 repeat' first|refine Z1 ?_|refine Z2 ?_|refine Z5 ?_|refine Zc (J7j l 6000 hl) ?_|refine Zd ?_|refine Zo ?_|refine J6 ?_|refine Zq ?_|refine J5 ?_|refine J8 ?_|refine J3 ?_
 refine Jq (ι:=Nat) (fun x=>envL [(1,.d (.im (l.map eItm))),(2,.ref 0 0),(4,vb false),(10,.d (.im (l.map eItm))),(11,vi l.length),(12,vi x)]) (fun x=>stL [some (.var ((eCls c).map .d))]) (fun x=>x≤l.length∧(l.drop x).all (itmS c)=mcodeS c l) (fun x=>l.length-x) 0 (⟨Nat.zero_le _,hm⟩) (Jj rfl ⟨.refl _,.refl _,.refl _,.refl _,.refl _,.refl _,trivial⟩ ⟨⟨rfl,_,rfl,rfl,fun _ _ _=>.refl _⟩,trivial⟩) (fun _=>Nat.le_refl 1) ?_
 rintro k ⟨i1,i2⟩
 rcases hx:l[k]? with _|t
 ·have hle:=Jo hx
  have ek:decide ((k:Int)<(l.length:Int))=false:=J1 (by omega)
  rw[Jr hx]at i2
  repeat' first|refine Z1 ?_|refine Z2 ?_|refine Zo ?_|refine J6 ?_|refine Zq ?_|refine Jh ?_|refine Jb ?_|refine J3 ?_|refine Ja ?_|refine Zv ?_|refine Zt ?_
  exact Jm i2
 obtain⟨hd,hlt⟩:=Ji hx
 have ek:decide ((k:Int)<(l.length:Int))=true:=J0 (by omega)
 rw[hd,List.all_cons]at i2
 have fin:itmS c t=false→false=mcodeS c l:=fun h=>by rw[←i2,h];rfl
 by_cases h1:20<t.op∧t.op≠25
 ·have d1:decide (20<t.op)=true:=J0 h1.1
  have d2:decide (t.op≠25)=true:=J0 h1.2
  have hf:=fin (by simp only[itmS,h1,true_or,if_true,and_self,ne_eq,not_false_eq_true])
  repeat' first|refine Z1 ?_|refine Z2 ?_|refine Z5 ?_|refine Z7 ?_|refine Ze ?_|refine Zh ?_|refine Zi ?_|refine Zl ?_|refine Zo ?_|refine J6 ?_|refine Zp ?_|refine J5 ?_|refine J8 ?_|refine Jb ?_|refine J3 ?_|refine J7 ?_|refine J9 ?_|refine Zt ?_
  exact Jm hf
 have go:∀Q:Prop,(decide (20<t.op)=false→Q)→(decide (20<t.op)=true→decide (t.op≠25)=false→Q)→Q:=by
  intro Q a b
  by_cases h:20<t.op
  ·exact b (J0 h) (J1 fun g=>h1 ⟨h,g⟩)
  ·exact a (J1 h)
 by_cases h2:t.op=3∧inS (nmsC c) t.name=false
 ·have d3:decide (t.op=3)=true:=J0 h2.1
  have d0:decide (20<t.op)=false:=J1 (by omega)
  have d4:(!inS (nmsC c) t.name)=true:=by rw[h2.2];rfl
  have hf:=fin (by unfold itmS;rw[if_pos (.inr (.inl h2))])
  repeat' first|refine Z1 ?_|refine Z2 ?_|refine Z5 ?_|refine Z8 ?_|refine Ze ?_|refine Zm ?_|refine Zw ?_|refine Zx ?_|refine Ua ?_|refine Zz (Zl ⟨rfl,rfl⟩) ?_|refine Ue (Zc (J0z c hw) ⟨rfl,rfl⟩) ?_|refine Ue (Zc (J3y (nmsC c) t.name hn) ⟨rfl,rfl⟩) ?_|refine Zo ?_|refine J6 ?_|refine Jx Jp (by decide +kernel) ?_|refine Zp ?_|refine Zq ?_|refine J5 ?_|refine J8 ?_|refine Jb ?_|refine J3 ?_|refine J7 ?_|refine J9 ?_|refine Zt ?_
  exact Jm hf
 by_cases h3:t.op=25∧(t.val<0∨(c.mems.length:Int)≤t.val)
 ·have d3:decide (t.op=3)=false:=J1 (by omega)
  have d0:decide (20<t.op)=true:=J0 (by omega)
  have d1:decide (t.op≠25)=false:=J1 (fun h=>h h3.1)
  have d4:decide (t.op=25)=true:=J0 h3.1
  have hf:=fin (by unfold itmS;rw[if_pos (.inr (.inr h3))])
  by_cases h4:t.val<0
  ·have d5:decide (t.val<0)=true:=J0 h4
   repeat' first|refine Z1 ?_|refine Z2 ?_|refine Z5 ?_|refine Z7 ?_|refine Z9 ?_|refine Ze ?_|refine Zh ?_|refine Zi ?_|refine Zl ?_|refine Zw ?_|refine Zx ?_|refine Ub ?_|refine Zz (Zm ⟨rfl,rfl⟩) ?_|refine Zo ?_|refine J6 ?_|refine Jx Jp (by decide +kernel) ?_|refine Zp ?_|refine Zq ?_|refine J5 ?_|refine J8 ?_|refine Jb ?_|refine J3 ?_|refine J7 ?_|refine J9 ?_|refine Zt ?_
   exact Jm hf
  ·have d5:decide (t.val<0)=false:=J1 h4
   have d6:decide ((c.mems.length:Int)≤t.val)=true:=J0 (by omega)
   repeat' first|refine Z1 ?_|refine Z2 ?_|refine Z5 ?_|refine Z7 ?_|refine Zd ?_|refine Ze ?_|refine Zh ?_|refine Zi ?_|refine Zl ?_|refine Zm ?_|refine Zw ?_|refine Zx ?_|refine Ub ?_|refine Zz (Zm ⟨rfl,rfl⟩) ?_|refine Zo ?_|refine J6 ?_|refine Jx Jp (by decide +kernel) ?_|refine Zp ?_|refine Zq ?_|refine J5 ?_|refine J8 ?_|refine Jb ?_|refine J3 ?_|refine J7 ?_|refine J9 ?_|refine Zt ?_
   exact Jm hf
 have hg:(l.drop (k+1)).all (itmS c)=mcodeS c l:=by
  rw[←i2,show itmS c t=true by unfold itmS;rw[if_neg (fun h=>h.elim h1 (fun h=>h.elim h2 h3))]];rfl
 by_cases o3:t.op=3
 ·have d3:decide (t.op=3)=true:=J0 o3
  have d0:decide (20<t.op)=false:=J1 (by omega)
  have d4:(!inS (nmsC c) t.name)=false:=by cases hq:inS (nmsC c) t.name with|true=>rfl|false=>exact absurd ⟨o3,hq⟩ h2
  have d7:decide (t.op=25)=false:=J1 (by omega)
  repeat' first|refine Z1 ?_|refine Z2 ?_|refine Z5 ?_|refine Z6 ?_|refine Z8 ?_|refine Ze ?_|refine Zf ?_|refine Zm ?_|refine Zw ?_|refine Zx ?_|refine Ua ?_|refine Zz (Zl ⟨rfl,rfl⟩) ?_|refine Ue (Zc (J0z c hw) ⟨rfl,rfl⟩) ?_|refine Ue (Zc (J3y (nmsC c) t.name hn) ⟨rfl,rfl⟩) ?_|refine Zo ?_|refine J6 ?_|refine Jf ?_|refine Jx Jp (by decide +kernel) ?_|refine Zp ?_|refine Zq ?_|refine J5 ?_|refine J8 ?_|refine J3 ?_|refine J4 ?_
  exact⟨k+1,⟨hlt,hg⟩,by(try simp only);omega,Jl (Nat.le_of_ble_eq_true rfl) ⟨⟨rfl,rfl⟩,⟨rfl,rfl⟩,⟨rfl,rfl⟩,⟨rfl,rfl⟩,⟨rfl,rfl⟩,⟨rfl,rfl⟩,trivial⟩ ⟨⟨rfl,rfl⟩,trivial⟩⟩
 have d3:decide (t.op=3)=false:=J1 o3
 by_cases o25:t.op=25
 ·have d7:decide (t.op=25)=true:=J0 o25
  have d0:decide (20<t.op)=true:=J0 (by omega)
  have d1:decide (t.op≠25)=false:=J1 (fun h=>h o25)
  have d5:decide (t.val<0)=false:=J1 (fun h=>h3 ⟨o25,.inl h⟩)
  have d6:decide ((c.mems.length:Int)≤t.val)=false:=J1 (fun h=>h3 ⟨o25,.inr h⟩)
  repeat' first|refine Z1 ?_|refine Z2 ?_|refine Z5 ?_|refine Z7 ?_|refine Zd ?_|refine Ze ?_|refine Zf ?_|refine Zh ?_|refine Zi ?_|refine Zl ?_|refine Zm ?_|refine Zw ?_|refine Zx ?_|refine Ub ?_|refine Zz (Zm ⟨rfl,rfl⟩) ?_|refine Zo ?_|refine J6 ?_|refine Jf ?_|refine Jx Jp (by decide +kernel) ?_|refine Zp ?_|refine Zq ?_|refine J5 ?_|refine J8 ?_|refine J3 ?_|refine J4 ?_
  exact⟨k+1,⟨hlt,hg⟩,by(try simp only);omega,Jl (Nat.le_of_ble_eq_true rfl) ⟨⟨rfl,rfl⟩,⟨rfl,rfl⟩,⟨rfl,rfl⟩,⟨rfl,rfl⟩,⟨rfl,rfl⟩,⟨rfl,rfl⟩,trivial⟩ ⟨⟨rfl,rfl⟩,trivial⟩⟩
 ·have d7:decide (t.op=25)=false:=J1 o25
  have d0:decide (20<t.op)=false:=J1 (fun h=>h1 ⟨h,o25⟩)
  repeat' first|refine Z1 ?_|refine Z2 ?_|refine Z5 ?_|refine Z6 ?_|refine Z8 ?_|refine Ze ?_|refine Zf ?_|refine Zm ?_|refine Zw ?_|refine Zx ?_|refine Ub ?_|refine Zz (Zm ⟨rfl,rfl⟩) ?_|refine Zo ?_|refine J6 ?_|refine Jf ?_|refine Jx Jp (by decide +kernel) ?_|refine Zp ?_|refine Zq ?_|refine J5 ?_|refine J8 ?_|refine J3 ?_|refine J4 ?_
  exact⟨k+1,⟨hlt,hg⟩,by(try simp only);omega,Jl (Nat.le_of_ble_eq_true rfl) ⟨⟨rfl,rfl⟩,⟨rfl,rfl⟩,⟨rfl,rfl⟩,⟨rfl,rfl⟩,⟨rfl,rfl⟩,⟨rfl,rfl⟩,trivial⟩ ⟨⟨rfl,rfl⟩,trivial⟩⟩
def writesS (s:Sm) (x:ByteArray):Bool:=(decide (s.kind=1)&&decide (s.name=x))||(decide (s.kind=3)&&inS s.outs x)
theorem J7L (s:Sm) (x:ByteArray) (hw:wSm s≤1048576):PFun X 131 [.agg ((eSm s).map .d),vs x] (vb (writesS s x)):=by
 have hl:s.outs.length≤1048576:=by simp only[wSm,wL]at hw;omega
 refine Jn Tryz.func131 rfl (by decide) Tryz.ntmps131 Tryz.results131 (by simp) rfl rfl ?_
 repeat' first|refine Z1 ?_|refine Z2 ?_|refine Z5 ?_|refine Z6 ?_|refine Z7 ?_|refine Z8 ?_|refine Z9 ?_|refine Za (fun hc=>?_) (fun hc=>?_)|refine Zb (fun hc=>?_) (fun hc=>?_)|refine Zc (J3y s.outs x hl) ?_|refine Zh ?_|refine Zi ?_|refine Zl ?_|refine Zm ?_|refine Zo ?_|refine Jb ?_|refine Zt ?_
 all_goals (refine Jm ?_;unfold writesS;grind)
def wrapS (v:Int):Int:=IntKind.i64.wrap (IntKind.i32.wrap v)
theorem J23 (v:Int):PFun X 66 [vi v] (vi (wrapS v)):=by
 refine Jn Tryz.func66 rfl (by decide) Tryz.ntmps66 Tryz.results66 (by simp) rfl rfl ?_
 repeat' first|refine Z1 ?_|refine Z2 ?_|refine Z5 ?_|refine Ycv ?_|refine Zo ?_|refine Jb ?_|refine Zt ?_
 rfl
end Go.Pm
/- Part of the proof: Ms3. -/
namespace Go.Pm
attribute [local irreducible] AR Ok inBlock andThen endQ aoper
set_option maxHeartbeats 1000000
open Go.Proofs
def tupI (p:Int×Int):AV:=.tup [vi p.1,vi p.2]
theorem J4G {a b:Int} {p:Int×Int} (h:(a,b)=p):AEnd.ret (.tup [vi a,vi b])=AEnd.ret (tupI p):=by rw[←h];rfl
theorem J3k (l:List Sm) (i:Nat) (hi:i≤l.length) (hl:l.length≤1048576):PFun X 81 [.d (.im (l.map eSm)),vi i] (tupI (partsS l i)):=by
 refine Jn Tryz.func81 rfl (by decide) Tryz.ntmps81 Tryz.results81 (by simp) rfl rfl ?_
 repeat' first|refine Z1 ?_|refine Z2 ?_|refine Zo ?_|refine J6 ?_|refine J5 ?_
 refine Jq (ι:=Nat×Int×Int) (fun x_=>envL [(0,.d (.im (l.map eSm))),(4,vi 0),(5,vi 0),(6,vi x_.2.1),(7,vi x_.2.2),(8,vi x_.1)]) (fun x_=>stL []) (fun x_=>i≤x_.1∧x_.1≤l.length∧-(x_.1:Int)≤x_.2.1∧x_.2.1≤(x_.1:Int)∧partsGo (l.drop x_.1) x_.1 x_.2.1 x_.2.2=partsS l i) (fun x_=>l.length-x_.1) (i,0,-1) (⟨Nat.le_refl _,hi,by simp only;omega,by simp only;omega,rfl⟩) (Jj rfl ⟨.refl _,.refl _,.refl _,.refl _,.refl _,.refl _,trivial⟩ trivial) (fun _=>Nat.le_refl 0) ?_
 rintro⟨j,d,o⟩ ⟨i1,i2,i3,i4,i5⟩
 simp only at i1 i2 i3 i4 i5
 dsimp only
 rcases hx:l[j]? with _|s
 ·have hle:=Jo hx
  have ek:decide ((j:Int)<(l.length:Int))=false:=J1 (by omega)
  rw[Jr hx]at i5
  repeat' first|refine Z1 ?_|refine Z2 ?_|refine Z5 ?_|refine Zd ?_|refine ret2 ?_|refine Zo ?_|refine J6 ?_|refine Zq ?_|refine Jh ?_|refine Jb ?_|refine J3 ?_|refine Ja ?_|refine Zv ?_
  exact J4G i5
 obtain⟨hd,hlt⟩:=Ji hx
 have ek:decide ((j:Int)<(l.length:Int))=true:=J0 (by omega)
 rw[hd]at i5
 simp only[partsGo]at i5
 by_cases k4:s.kind=4
 ·have d4:decide (s.kind=4)=true:=J0 k4
  rw[if_pos k4]at i5
  repeat' first|refine Z1 ?_|refine Z2 ?_|refine Z3 ?_|refine Z5 ?_|refine Zd ?_|refine Ze ?_|refine Zf ?_|refine Zo ?_|refine J6 ?_|refine Jf ?_|refine Zp ?_|refine J5 ?_|refine J8 ?_|refine J3 ?_|refine J4 ?_
  exact⟨(j+1,d+1,o),⟨by simp only;omega,hlt,by simp only;omega,by simp only;omega,i5⟩,by(try simp only);omega,Jl (Nat.zero_le _) ⟨⟨rfl,rfl⟩,⟨rfl,rfl⟩,⟨rfl,rfl⟩,⟨rfl,rfl⟩,⟨rfl,rfl⟩,⟨rfl,rfl⟩,trivial⟩ trivial⟩
 have d4:decide (s.kind=4)=false:=J1 k4
 rw[if_neg k4]at i5
 by_cases k5:s.kind=5
 ·have d5:decide (s.kind=5)=true:=J0 k5
  rw[if_pos k5]at i5
  by_cases h1:d=1
  ·have e1:decide (d=1)=true:=J0 h1
   rw[if_pos h1]at i5
   by_cases h0:0≤o
   ·have e0:decide (0≤o)=true:=J0 h0
    rw[if_pos h0]at i5
    repeat' first|refine Z1 ?_|refine Z2 ?_|refine Z5 ?_|refine Zd ?_|refine Ze ?_|refine ret2 ?_|refine Zo ?_|refine J6 ?_|refine Zp ?_|refine Zq ?_|refine J5 ?_|refine J8 ?_|refine Jb ?_|refine J3 ?_|refine J7 ?_|refine J9 ?_
    exact J4G i5
   ·have e0:decide (0≤o)=false:=J1 h0
    rw[if_neg h0]at i5
    repeat' first|refine Z1 ?_|refine Z2 ?_|refine Z3 ?_|refine Z5 ?_|refine Zd ?_|refine Ze ?_|refine Zf ?_|refine Zo ?_|refine J6 ?_|refine Jf ?_|refine Zp ?_|refine Zq ?_|refine J5 ?_|refine J8 ?_|refine J3 ?_|refine J4 ?_
    exact⟨(j+1,d,(j:Int)),⟨by simp only;omega,hlt,by simp only;omega,by simp only;omega,i5⟩,by(try simp only);omega,Jl (Nat.zero_le _) ⟨⟨rfl,rfl⟩,⟨rfl,rfl⟩,⟨rfl,rfl⟩,⟨rfl,rfl⟩,⟨rfl,rfl⟩,⟨rfl,rfl⟩,trivial⟩ trivial⟩
  ·have e1:decide (d=1)=false:=J1 h1
   rw[if_neg h1]at i5
   repeat' first|refine Z1 ?_|refine Z2 ?_|refine Z5 ?_|refine Zd ?_|refine Ze ?_|refine Zf ?_|refine Zo ?_|refine J6 ?_|refine Jf ?_|refine Zp ?_|refine Zq ?_|refine J5 ?_|refine J8 ?_|refine J3 ?_|refine J4 ?_
   exact⟨(j+1,d,o),⟨by simp only;omega,hlt,by simp only;omega,by simp only;omega,i5⟩,by(try simp only);omega,Jl (Nat.zero_le _) ⟨⟨rfl,rfl⟩,⟨rfl,rfl⟩,⟨rfl,rfl⟩,⟨rfl,rfl⟩,⟨rfl,rfl⟩,⟨rfl,rfl⟩,trivial⟩ trivial⟩
 have d5:decide (s.kind=5)=false:=J1 k5
 rw[if_neg k5]at i5
 by_cases k6:s.kind=6
 ·have d6:decide (s.kind=6)=true:=J0 k6
  rw[if_pos k6]at i5
  by_cases h1:d-1=0
  ·have e1:decide (d-1=0)=true:=J0 h1
   rw[if_pos h1]at i5
   repeat' first|refine Z1 ?_|refine Z2 ?_|refine Z5 ?_|refine Zd ?_|refine Ze ?_|refine Zg ?_|refine ret2 ?_|refine Zo ?_|refine J6 ?_|refine Zp ?_|refine Zq ?_|refine J5 ?_|refine J8 ?_|refine Jb ?_|refine J3 ?_|refine J7 ?_|refine J9 ?_
   exact J4G i5
  ·have e1:decide (d-1=0)=false:=J1 h1
   rw[if_neg h1]at i5
   repeat' first|refine Z1 ?_|refine Z2 ?_|refine Z5 ?_|refine Zd ?_|refine Ze ?_|refine Zf ?_|refine Zg ?_|refine Zo ?_|refine J6 ?_|refine Jf ?_|refine Zp ?_|refine Zq ?_|refine J5 ?_|refine J8 ?_|refine J3 ?_|refine J4 ?_
   exact⟨(j+1,d-1,o),⟨by simp only;omega,hlt,by simp only;omega,by simp only;omega,i5⟩,by(try simp only);omega,Jl (Nat.zero_le _) ⟨⟨rfl,rfl⟩,⟨rfl,rfl⟩,⟨rfl,rfl⟩,⟨rfl,rfl⟩,⟨rfl,rfl⟩,⟨rfl,rfl⟩,trivial⟩ trivial⟩
 have d6:decide (s.kind=6)=false:=J1 k6
 rw[if_neg k6]at i5
 repeat' first|refine Z1 ?_|refine Z2 ?_|refine Z5 ?_|refine Zd ?_|refine Ze ?_|refine Zf ?_|refine Zo ?_|refine J6 ?_|refine Jf ?_|refine Zp ?_|refine Zq ?_|refine J5 ?_|refine J8 ?_|refine J3 ?_|refine J4 ?_
 exact⟨(j+1,d,o),⟨by simp only;omega,hlt,by simp only;omega,by simp only;omega,i5⟩,by(try simp only);omega,Jl (Nat.zero_le _) ⟨⟨rfl,rfl⟩,⟨rfl,rfl⟩,⟨rfl,rfl⟩,⟨rfl,rfl⟩,⟨rfl,rfl⟩,⟨rfl,rfl⟩,trivial⟩ trivial⟩
end Go.Pm
