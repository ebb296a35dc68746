/- Part of the proof: Ms4. -/
import Derived.Test.YtdjanhhljinokaaGreatDoorT13
import Derived.Test.YtdjanhhljinokaaGreatDoorT12
import Derived.Test.YtdjanhhljinokaaGreatDoorT8
set_option linter.unusedVariables false
set_option linter.unusedSimpArgs false
namespace Go.Pm
attribute [local irreducible] AR Ok inBlock andThen endQ aoper
set_option maxHeartbeats 1000000
open Go.Proofs
theorem J63 {l y n r2:List Sm} {i:Nat} {s e f:Sm} (hd:l.drop i=s::(y++e::(n++f::r2))):
  i+1+y.length+1+n.length<l.length∧(l.drop (i+1)).take (i+1+y.length-(i+1))=y∧(l.drop (i+1+y.length+1)).take (i+1+y.length+1+n.length-(i+1+y.length+1))=n∧l.drop (i+1+y.length+1+n.length+1)=r2:=by
 have h1:l.drop (i+1)=y++e::(n++f::r2):=by rw[←List.drop_drop,hd];rfl
 have h2:l.drop (i+1+y.length+1)=n++f::r2:=by rw[show i+1+y.length+1=i+1+(y.length+1) by omega,←List.drop_drop,h1,←List.drop_drop,List.drop_left];rfl
 have h3:l.drop (i+1+y.length+1+n.length+1)=r2:=by rw[show i+1+y.length+1+n.length+1=i+1+y.length+1+(n.length+1) by omega,←List.drop_drop,h2,←List.drop_drop,List.drop_left];rfl
 refine⟨?_,?_,?_,h3⟩
 ·have:=congrArg List.length hd
  simp only[List.length_drop,List.length_cons,List.length_append]at this
  omega
 ·rw[h1,show i+1+y.length-(i+1)=y.length by omega,List.take_left]
 ·rw[h2,show i+1+y.length+1+n.length-(i+1+y.length+1)=n.length by omega,List.take_left]
set_option maxHeartbeats 4000000 in
theorem J9E:∀(N:Nat) (l:List Sm) (d:Int),l.length=N→l.length≤1048576→0≤d→d+l.length≤2097152→PFun X 130 [.d (.im (l.map eSm)),vi d] (vb (nestV l d)):=by
 intro N
 induction N using Nat.strongRecOn with
 |_ N ih=>
  intro l d hN hl hd0 hd1
  refine Jn Tryz.func130 rfl (by decide) Tryz.ntmps130 Tryz.results130 (by simp) rfl rfl ?_
  repeat' first|refine Z1 ?_|refine Z2 ?_|refine Z3 ?_|refine Z4 ?_|refine Z5 ?_|refine Z6 ?_|refine Z7 ?_|refine Z8 ?_|refine Z9 ?_|refine Za (fun hc=>?_) (fun hc=>?_)|refine Zb (fun hc=>?_) (fun hc=>?_)|refine Zd ?_|refine Ze ?_|refine Zf ?_|refine Zg ?_|refine Zh ?_|refine Zi ?_|refine Zj ?_|refine Zk ?_|refine Zl ?_|refine Zm ?_|refine Zn (fun hc=>?_) (fun hc=>?_)|refine Zo ?_|refine J6 ?_|refine Jf ?_|refine Zp ?_|refine Zq ?_|refine Zr (fun hc=>?_) (fun hc=>?_)|refine J5 ?_|refine Jh ?_|refine J8 ?_|refine Jb ?_|refine J3 ?_|refine Ja ?_|refine Zs ?_|refine Zv ?_|refine J7 ?_|refine J9 ?_|refine J4 ?_|refine Zt ?_|refine Zu ?_
  refine Jq (ι:=Nat) (fun x=>envL [(0,.d (.im (l.map eSm))),(1,vi d),(4,vb false),(5,vi x)]) (fun x=>stL []) (fun x=>x≤l.length∧nestV (l.drop x) d=nestV l d) (fun x=>l.length-x) 0 (⟨Nat.zero_le _,rfl⟩) (Jj rfl ⟨.refl _,.refl _,.refl _,.refl _,trivial⟩ trivial) (fun _=>Nat.le_refl 0) ?_
  rintro i ⟨i1,i2⟩
  rcases hx:l[i]? with _|s
  ·have hle:=Jo hx
   have ek:decide ((i:Int)<(l.length:Int))=false:=J1 (by omega)
   rw[Jr hx,J9p]at i2
   repeat' first|refine Z1 ?_|refine Z2 ?_|refine Z3 ?_|refine Z4 ?_|refine Z5 ?_|refine Z6 ?_|refine Z7 ?_|refine Z8 ?_|refine Z9 ?_|refine Za (fun hc=>?_) (fun hc=>?_)|refine Zb (fun hc=>?_) (fun hc=>?_)|refine Zd ?_|refine Ze ?_|refine Zf ?_|refine Zg ?_|refine Zh ?_|refine Zi ?_|refine Zj ?_|refine Zk ?_|refine Zl ?_|refine Zm ?_|refine Zn (fun hc=>?_) (fun hc=>?_)|refine Zo ?_|refine J6 ?_|refine Jf ?_|refine Zp ?_|refine Zq ?_|refine Zr (fun hc=>?_) (fun hc=>?_)|refine J5 ?_|refine Jh ?_|refine J8 ?_|refine Jb ?_|refine J3 ?_|refine Ja ?_|refine Zs ?_|refine Zv ?_|refine J7 ?_|refine J9 ?_|refine J4 ?_|refine Zt ?_|refine Zu ?_
   exact Jm i2
  obtain⟨hd,hlt⟩:=Ji hx
  have ek:decide ((i:Int)<(l.length:Int))=true:=J0 (by omega)
  have fin:nestV (l.drop i) d=false→false=nestV l d:=fun h=>by rw[←i2,h]
  by_cases k5:s.kind=5
  ·have d5:decide (s.kind=5)=true:=J0 k5
   have hf:=fin (by rw[hd];exact J5v (.inl k5) d)
   repeat' first|refine Z1 ?_|refine Z2 ?_|refine Z3 ?_|refine Z4 ?_|refine Z5 ?_|refine Z6 ?_|refine Z7 ?_|refine Z8 ?_|refine Z9 ?_|refine Za (fun hc=>?_) (fun hc=>?_)|refine Zb (fun hc=>?_) (fun hc=>?_)|refine Zd ?_|refine Ze ?_|refine Zf ?_|refine Zg ?_|refine Zh ?_|refine Zi ?_|refine Zj ?_|refine Zk ?_|refine Zl ?_|refine Zm ?_|refine Zn (fun hc=>?_) (fun hc=>?_)|refine Zo ?_|refine J6 ?_|refine Jf ?_|refine Zp ?_|refine Zq ?_|refine Zr (fun hc=>?_) (fun hc=>?_)|refine J5 ?_|refine Jh ?_|refine J8 ?_|refine Jb ?_|refine J3 ?_|refine Ja ?_|refine Zs ?_|refine Zv ?_|refine J7 ?_|refine J9 ?_|refine J4 ?_|refine Zt ?_|refine Zu ?_
   exact Jm hf
  have d5:decide (s.kind=5)=false:=J1 k5
  by_cases k6:s.kind=6
  ·have d6:decide (s.kind=6)=true:=J0 k6
   have hf:=fin (by rw[hd];exact J5v (.inr k6) d)
   repeat' first|refine Z1 ?_|refine Z2 ?_|refine Z3 ?_|refine Z4 ?_|refine Z5 ?_|refine Z6 ?_|refine Z7 ?_|refine Z8 ?_|refine Z9 ?_|refine Za (fun hc=>?_) (fun hc=>?_)|refine Zb (fun hc=>?_) (fun hc=>?_)|refine Zd ?_|refine Ze ?_|refine Zf ?_|refine Zg ?_|refine Zh ?_|refine Zi ?_|refine Zj ?_|refine Zk ?_|refine Zl ?_|refine Zm ?_|refine Zn (fun hc=>?_) (fun hc=>?_)|refine Zo ?_|refine J6 ?_|refine Jf ?_|refine Zp ?_|refine Zq ?_|refine Zr (fun hc=>?_) (fun hc=>?_)|refine J5 ?_|refine Jh ?_|refine J8 ?_|refine Jb ?_|refine J3 ?_|refine Ja ?_|refine Zs ?_|refine Zv ?_|refine J7 ?_|refine J9 ?_|refine J4 ?_|refine Zt ?_|refine Zu ?_
   exact Jm hf
  have d6:decide (s.kind=6)=false:=J1 k6
  by_cases k4:s.kind=4
  ·have d4:decide (s.kind=4)=true:=J0 k4
   have hps:=J3k l i i1 hl
   rcases hp:partsS l i with⟨O,E⟩
   rw[hp]at hps
   unfold partsS at hp
   rw[hd]at hp
   by_cases hO:O<0
   ·have b1:decide (O<0)=true:=J0 hO
    have hf:=fin (by rw[hd];exact J50 k4 hp (.inl hO) d)
    repeat' first|refine Z1 ?_|refine Z2 ?_|refine Z3 ?_|refine Z4 ?_|refine Z5 ?_|refine Z6 ?_|refine Z7 ?_|refine Z8 ?_|refine Z9 ?_|refine Za (fun hc=>?_) (fun hc=>?_)|refine Zb (fun hc=>?_) (fun hc=>?_)|refine Zc (hps) ?_|refine Zd ?_|refine Ze ?_|refine Zf ?_|refine Zg ?_|refine Zh ?_|refine Zi ?_|refine Zj ?_|refine Zk ?_|refine Zl ?_|refine Zm ?_|refine Zn (fun hc=>?_) (fun hc=>?_)|refine Zo ?_|refine J6 ?_|refine Jf ?_|refine Zp ?_|refine Zq ?_|refine Zr (fun hc=>?_) (fun hc=>?_)|refine J5 ?_|refine Jh ?_|refine J8 ?_|refine Jb ?_|refine J3 ?_|refine Ja ?_|refine Zs ?_|refine Zv ?_|refine J7 ?_|refine J9 ?_|refine J4 ?_|refine Zt ?_|refine Zu ?_
    exact Jm hf
   have b1:decide (O<0)=false:=J1 hO
   by_cases hE:E<0
   ·have b2:decide (E<0)=true:=J0 hE
    have hf:=fin (by rw[hd];exact J50 k4 hp (.inr hE) d)
    repeat' first|refine Z1 ?_|refine Z2 ?_|refine Z3 ?_|refine Z4 ?_|refine Z5 ?_|refine Z6 ?_|refine Z7 ?_|refine Z8 ?_|refine Z9 ?_|refine Za (fun hc=>?_) (fun hc=>?_)|refine Zb (fun hc=>?_) (fun hc=>?_)|refine Zc (hps) ?_|refine Zd ?_|refine Ze ?_|refine Zf ?_|refine Zg ?_|refine Zh ?_|refine Zi ?_|refine Zj ?_|refine Zk ?_|refine Zl ?_|refine Zm ?_|refine Zn (fun hc=>?_) (fun hc=>?_)|refine Zo ?_|refine J6 ?_|refine Jf ?_|refine Zp ?_|refine Zq ?_|refine Zr (fun hc=>?_) (fun hc=>?_)|refine J5 ?_|refine Jh ?_|refine J8 ?_|refine Jb ?_|refine J3 ?_|refine Ja ?_|refine Zs ?_|refine Zv ?_|refine J7 ?_|refine J9 ?_|refine J4 ?_|refine Zt ?_|refine Zu ?_
    exact Jm hf
   have b2:decide (E<0)=false:=J1 hE
   obtain⟨y,e,n,f,r2,hr,h5,h6,hO',hE'⟩:=Jcj k4 hp (by omega) (by omega)
   subst hO' hE'
   rw[hr]at hd hp
   obtain⟨c0,c1,c2,c3⟩:=J63 hd
   have hnv:=Jan k4 h5 h6 hp d
   rw[←hd]at hnv
   have key:((0<y.length∨0<n.length)∧20<d+1→false=nestV l d)∧(¬((0<y.length∨0<n.length)∧20<d+1)→(nestV y (d+1)&&nestV n (d+1)&&nestV r2 d)=nestV l d):=
    ⟨fun h=>by rw[←i2,hnv,if_pos h],fun h=>by rw[←i2,hnv,if_neg h]⟩
   have hy:=ih y.length (by omega) y (d+1) rfl (by omega) (by omega) (by omega)
   have hn:=ih n.length (by omega) n (d+1) rfl (by omega) (by omega) (by omega)
   have all:∀Q:Prop,((decide (((i:Int)+1)<((i+1+y.length:Nat):Int))=true∨(decide (((i:Int)+1)<((i+1+y.length:Nat):Int))=false∧decide ((((i+1+y.length:Nat):Int)+1)<((i+1+y.length+1+n.length:Nat):Int))=true))→(0<y.length∨0<n.length)→Q)→(decide (((i:Int)+1)<((i+1+y.length:Nat):Int))=false→decide ((((i+1+y.length:Nat):Int)+1)<((i+1+y.length+1+n.length:Nat):Int))=false→¬(0<y.length∨0<n.length)→Q)→Q:=by
    intro Q a b
    by_cases h1:0<y.length
    ·exact a (.inl (J0 (by omega))) (.inl h1)
    ·by_cases h2:0<n.length
     ·exact a (.inr ⟨J1 (by omega),J0 (by omega)⟩) (.inr h2)
     ·exact b (J1 (by omega)) (J1 (by omega)) (by omega)
   have rest:∀{Q:Prop},¬((0<y.length∨0<n.length)∧20<d+1)→((!nestV y (d+1))=true→false=nestV l d→Q)→((!nestV y (d+1))=false→(!nestV n (d+1))=true→false=nestV l d→Q)→((!nestV y (d+1))=false→(!nestV n (d+1))=false→nestV r2 d=nestV l d→Q)→Q:=by
    intro Q h a b c
    have:=key.2 h
    cases h1:nestV y (d+1)with
    |false=>exact a (by rw[h1];rfl) (by rw[←this,h1];rfl)
    |true=>
     cases h2:nestV n (d+1)with
     |false=>exact b (by rw[h1];rfl) (by rw[h2];rfl) (by rw[←this,h1,h2];rfl)
     |true=>exact c (by rw[h1];rfl) (by rw[h2];rfl) (by rw[←this,h1,h2];simp)
   have hbk:nestV (l.drop (i+1+y.length+1+n.length+1)) d=nestV r2 d:=by rw[c3]
   refine all _ (fun hin hpos=>?_) (fun q1 q2 hpos=>?_)
   ·rcases hin with q1|⟨q1,q2⟩
    ·by_cases h20:20<d+1
     ·have q3:decide (20<d+1)=true:=J0 h20
      have hf:=key.1 ⟨hpos,h20⟩
      repeat' first|refine Z1 ?_|refine Z2 ?_|refine Z3 ?_|refine Z4 ?_|refine Z5 ?_|refine Z6 ?_|refine Z7 ?_|refine Z8 ?_|refine Z9 ?_|refine Za (fun hc=>?_) (fun hc=>?_)|refine Zb (fun hc=>?_) (fun hc=>?_)|refine Zc (hps) ?_|refine Zd ?_|refine Ze ?_|refine Zf ?_|refine Zg ?_|refine Zh ?_|refine Zi ?_|refine Zj ?_|refine Zk ?_|refine Zl ?_|refine Zm ?_|refine Zn (fun hc=>?_) (fun hc=>?_)|refine Zo ?_|refine J6 ?_|refine Jf ?_|refine Zp ?_|refine Zq ?_|refine Zr (fun hc=>?_) (fun hc=>?_)|refine J5 ?_|refine Jh ?_|refine J8 ?_|refine Jb ?_|refine J3 ?_|refine Ja ?_|refine Zs ?_|refine Zv ?_|refine J7 ?_|refine J9 ?_|refine J4 ?_|refine Zt ?_|refine Zu ?_
      exact Jm hf
     have q3:decide (20<d+1)=false:=J1 h20
     refine rest (fun h=>h20 h.2) (fun v1 hf=>?_) (fun v1 v2 hf=>?_) (fun v1 v2 hg=>?_)
     ·
      repeat' first|refine Z1 ?_|refine Z2 ?_|refine Z3 ?_|refine Z4 ?_|refine Z5 ?_|refine Z6 ?_|refine Z7 ?_|refine Z8 ?_|refine Z9 ?_|refine Za (fun hc=>?_) (fun hc=>?_)|refine Zb (fun hc=>?_) (fun hc=>?_)|refine Zc (hps) ?_|refine Ysl (e:=eSm) (l:=l) (i+1) (i+1+y.length) y c1 ?_|refine Ysl (e:=eSm) (l:=l) (i+1+y.length+1) (i+1+y.length+1+n.length) n c2 ?_|refine Zc (hy) ?_|refine Zc (hn) ?_|refine Zd ?_|refine Ze ?_|refine Zf ?_|refine Zg ?_|refine Zh ?_|refine Zi ?_|refine Zj ?_|refine Zk ?_|refine Zl ?_|refine Zm ?_|refine Zn (fun hc=>?_) (fun hc=>?_)|refine Zo ?_|refine J6 ?_|refine Jf ?_|refine Zp ?_|refine Zq ?_|refine Zr (fun hc=>?_) (fun hc=>?_)|refine J5 ?_|refine Jh ?_|refine J8 ?_|refine Jb ?_|refine J3 ?_|refine Ja ?_|refine Zs ?_|refine Zv ?_|refine J7 ?_|refine J9 ?_|refine J4 ?_|refine Zt ?_|refine Zu ?_
      exact Jm hf
     ·
      repeat' first|refine Z1 ?_|refine Z2 ?_|refine Z3 ?_|refine Z4 ?_|refine Z5 ?_|refine Z6 ?_|refine Z7 ?_|refine Z8 ?_|refine Z9 ?_|refine Za (fun hc=>?_) (fun hc=>?_)|refine Zb (fun hc=>?_) (fun hc=>?_)|refine Zc (hps) ?_|refine Ysl (e:=eSm) (l:=l) (i+1) (i+1+y.length) y c1 ?_|refine Ysl (e:=eSm) (l:=l) (i+1+y.length+1) (i+1+y.length+1+n.length) n c2 ?_|refine Zc (hy) ?_|refine Zc (hn) ?_|refine Zd ?_|refine Ze ?_|refine Zf ?_|refine Zg ?_|refine Zh ?_|refine Zi ?_|refine Zj ?_|refine Zk ?_|refine Zl ?_|refine Zm ?_|refine Zn (fun hc=>?_) (fun hc=>?_)|refine Zo ?_|refine J6 ?_|refine Jf ?_|refine Zp ?_|refine Zq ?_|refine Zr (fun hc=>?_) (fun hc=>?_)|refine J5 ?_|refine Jh ?_|refine J8 ?_|refine Jb ?_|refine J3 ?_|refine Ja ?_|refine Zs ?_|refine Zv ?_|refine J7 ?_|refine J9 ?_|refine J4 ?_|refine Zt ?_|refine Zu ?_
      exact Jm hf
     ·
      repeat' first|refine Z1 ?_|refine Z2 ?_|refine Z3 ?_|refine Z4 ?_|refine Z5 ?_|refine Z6 ?_|refine Z7 ?_|refine Z8 ?_|refine Z9 ?_|refine Za (fun hc=>?_) (fun hc=>?_)|refine Zb (fun hc=>?_) (fun hc=>?_)|refine Zc (hps) ?_|refine Ysl (e:=eSm) (l:=l) (i+1) (i+1+y.length) y c1 ?_|refine Ysl (e:=eSm) (l:=l) (i+1+y.length+1) (i+1+y.length+1+n.length) n c2 ?_|refine Zc (hy) ?_|refine Zc (hn) ?_|refine Zd ?_|refine Ze ?_|refine Zf ?_|refine Zg ?_|refine Zh ?_|refine Zi ?_|refine Zj ?_|refine Zk ?_|refine Zl ?_|refine Zm ?_|refine Zn (fun hc=>?_) (fun hc=>?_)|refine Zo ?_|refine J6 ?_|refine Jf ?_|refine Zp ?_|refine Zq ?_|refine Zr (fun hc=>?_) (fun hc=>?_)|refine J5 ?_|refine Jh ?_|refine J8 ?_|refine Jb ?_|refine J3 ?_|refine Ja ?_|refine Zs ?_|refine Zv ?_|refine J7 ?_|refine J9 ?_|refine J4 ?_|refine Zt ?_|refine Zu ?_
      exact⟨i+1+y.length+1+n.length+1,⟨by omega,hbk.trans hg⟩,by(try simp only);omega,Jl (Nat.zero_le _) ⟨⟨rfl,rfl⟩,⟨rfl,rfl⟩,⟨rfl,rfl⟩,⟨rfl,rfl⟩,trivial⟩ trivial⟩
    ·by_cases h20:20<d+1
     ·have q3:decide (20<d+1)=true:=J0 h20
      have hf:=key.1 ⟨hpos,h20⟩
      repeat' first|refine Z1 ?_|refine Z2 ?_|refine Z3 ?_|refine Z4 ?_|refine Z5 ?_|refine Z6 ?_|refine Z7 ?_|refine Z8 ?_|refine Z9 ?_|refine Za (fun hc=>?_) (fun hc=>?_)|refine Zb (fun hc=>?_) (fun hc=>?_)|refine Zc (hps) ?_|refine Zd ?_|refine Ze ?_|refine Zf ?_|refine Zg ?_|refine Zh ?_|refine Zi ?_|refine Zj ?_|refine Zk ?_|refine Zl ?_|refine Zm ?_|refine Zn (fun hc=>?_) (fun hc=>?_)|refine Zo ?_|refine J6 ?_|refine Jf ?_|refine Zp ?_|refine Zq ?_|refine Zr (fun hc=>?_) (fun hc=>?_)|refine J5 ?_|refine Jh ?_|refine J8 ?_|refine Jb ?_|refine J3 ?_|refine Ja ?_|refine Zs ?_|refine Zv ?_|refine J7 ?_|refine J9 ?_|refine J4 ?_|refine Zt ?_|refine Zu ?_
      exact Jm hf
     have q3:decide (20<d+1)=false:=J1 h20
     refine rest (fun h=>h20 h.2) (fun v1 hf=>?_) (fun v1 v2 hf=>?_) (fun v1 v2 hg=>?_)
     ·
      repeat' first|refine Z1 ?_|refine Z2 ?_|refine Z3 ?_|refine Z4 ?_|refine Z5 ?_|refine Z6 ?_|refine Z7 ?_|refine Z8 ?_|refine Z9 ?_|refine Za (fun hc=>?_) (fun hc=>?_)|refine Zb (fun hc=>?_) (fun hc=>?_)|refine Zc (hps) ?_|refine Ysl (e:=eSm) (l:=l) (i+1) (i+1+y.length) y c1 ?_|refine Ysl (e:=eSm) (l:=l) (i+1+y.length+1) (i+1+y.length+1+n.length) n c2 ?_|refine Zc (hy) ?_|refine Zc (hn) ?_|refine Zd ?_|refine Ze ?_|refine Zf ?_|refine Zg ?_|refine Zh ?_|refine Zi ?_|refine Zj ?_|refine Zk ?_|refine Zl ?_|refine Zm ?_|refine Zn (fun hc=>?_) (fun hc=>?_)|refine Zo ?_|refine J6 ?_|refine Jf ?_|refine Zp ?_|refine Zq ?_|refine Zr (fun hc=>?_) (fun hc=>?_)|refine J5 ?_|refine Jh ?_|refine J8 ?_|refine Jb ?_|refine J3 ?_|refine Ja ?_|refine Zs ?_|refine Zv ?_|refine J7 ?_|refine J9 ?_|refine J4 ?_|refine Zt ?_|refine Zu ?_
      exact Jm hf
     ·
      repeat' first|refine Z1 ?_|refine Z2 ?_|refine Z3 ?_|refine Z4 ?_|refine Z5 ?_|refine Z6 ?_|refine Z7 ?_|refine Z8 ?_|refine Z9 ?_|refine Za (fun hc=>?_) (fun hc=>?_)|refine Zb (fun hc=>?_) (fun hc=>?_)|refine Zc (hps) ?_|refine Ysl (e:=eSm) (l:=l) (i+1) (i+1+y.length) y c1 ?_|refine Ysl (e:=eSm) (l:=l) (i+1+y.length+1) (i+1+y.length+1+n.length) n c2 ?_|refine Zc (hy) ?_|refine Zc (hn) ?_|refine Zd ?_|refine Ze ?_|refine Zf ?_|refine Zg ?_|refine Zh ?_|refine Zi ?_|refine Zj ?_|refine Zk ?_|refine Zl ?_|refine Zm ?_|refine Zn (fun hc=>?_) (fun hc=>?_)|refine Zo ?_|refine J6 ?_|refine Jf ?_|refine Zp ?_|refine Zq ?_|refine Zr (fun hc=>?_) (fun hc=>?_)|refine J5 ?_|refine Jh ?_|refine J8 ?_|refine Jb ?_|refine J3 ?_|refine Ja ?_|refine Zs ?_|refine Zv ?_|refine J7 ?_|refine J9 ?_|refine J4 ?_|refine Zt ?_|refine Zu ?_
      exact Jm hf
     ·
      repeat' first|refine Z1 ?_|refine Z2 ?_|refine Z3 ?_|refine Z4 ?_|refine Z5 ?_|refine Z6 ?_|refine Z7 ?_|refine Z8 ?_|refine Z9 ?_|refine Za (fun hc=>?_) (fun hc=>?_)|refine Zb (fun hc=>?_) (fun hc=>?_)|refine Zc (hps) ?_|refine Ysl (e:=eSm) (l:=l) (i+1) (i+1+y.length) y c1 ?_|refine Ysl (e:=eSm) (l:=l) (i+1+y.length+1) (i+1+y.length+1+n.length) n c2 ?_|refine Zc (hy) ?_|refine Zc (hn) ?_|refine Zd ?_|refine Ze ?_|refine Zf ?_|refine Zg ?_|refine Zh ?_|refine Zi ?_|refine Zj ?_|refine Zk ?_|refine Zl ?_|refine Zm ?_|refine Zn (fun hc=>?_) (fun hc=>?_)|refine Zo ?_|refine J6 ?_|refine Jf ?_|refine Zp ?_|refine Zq ?_|refine Zr (fun hc=>?_) (fun hc=>?_)|refine J5 ?_|refine Jh ?_|refine J8 ?_|refine Jb ?_|refine J3 ?_|refine Ja ?_|refine Zs ?_|refine Zv ?_|refine J7 ?_|refine J9 ?_|refine J4 ?_|refine Zt ?_|refine Zu ?_
      exact⟨i+1+y.length+1+n.length+1,⟨by omega,hbk.trans hg⟩,by(try simp only);omega,Jl (Nat.zero_le _) ⟨⟨rfl,rfl⟩,⟨rfl,rfl⟩,⟨rfl,rfl⟩,⟨rfl,rfl⟩,trivial⟩ trivial⟩
   ·refine rest (fun h=>hpos h.1) (fun v1 hf=>?_) (fun v1 v2 hf=>?_) (fun v1 v2 hg=>?_)
    ·
     repeat' first|refine Z1 ?_|refine Z2 ?_|refine Z3 ?_|refine Z4 ?_|refine Z5 ?_|refine Z6 ?_|refine Z7 ?_|refine Z8 ?_|refine Z9 ?_|refine Za (fun hc=>?_) (fun hc=>?_)|refine Zb (fun hc=>?_) (fun hc=>?_)|refine Zc (hps) ?_|refine Ysl (e:=eSm) (l:=l) (i+1) (i+1+y.length) y c1 ?_|refine Ysl (e:=eSm) (l:=l) (i+1+y.length+1) (i+1+y.length+1+n.length) n c2 ?_|refine Zc (hy) ?_|refine Zc (hn) ?_|refine Zd ?_|refine Ze ?_|refine Zf ?_|refine Zg ?_|refine Zh ?_|refine Zi ?_|refine Zj ?_|refine Zk ?_|refine Zl ?_|refine Zm ?_|refine Zn (fun hc=>?_) (fun hc=>?_)|refine Zo ?_|refine J6 ?_|refine Jf ?_|refine Zp ?_|refine Zq ?_|refine Zr (fun hc=>?_) (fun hc=>?_)|refine J5 ?_|refine Jh ?_|refine J8 ?_|refine Jb ?_|refine J3 ?_|refine Ja ?_|refine Zs ?_|refine Zv ?_|refine J7 ?_|refine J9 ?_|refine J4 ?_|refine Zt ?_|refine Zu ?_
     exact Jm hf
    ·
     repeat' first|refine Z1 ?_|refine Z2 ?_|refine Z3 ?_|refine Z4 ?_|refine Z5 ?_|refine Z6 ?_|refine Z7 ?_|refine Z8 ?_|refine Z9 ?_|refine Za (fun hc=>?_) (fun hc=>?_)|refine Zb (fun hc=>?_) (fun hc=>?_)|refine Zc (hps) ?_|refine Ysl (e:=eSm) (l:=l) (i+1) (i+1+y.length) y c1 ?_|refine Ysl (e:=eSm) (l:=l) (i+1+y.length+1) (i+1+y.length+1+n.length) n c2 ?_|refine Zc (hy) ?_|refine Zc (hn) ?_|refine Zd ?_|refine Ze ?_|refine Zf ?_|refine Zg ?_|refine Zh ?_|refine Zi ?_|refine Zj ?_|refine Zk ?_|refine Zl ?_|refine Zm ?_|refine Zn (fun hc=>?_) (fun hc=>?_)|refine Zo ?_|refine J6 ?_|refine Jf ?_|refine Zp ?_|refine Zq ?_|refine Zr (fun hc=>?_) (fun hc=>?_)|refine J5 ?_|refine Jh ?_|refine J8 ?_|refine Jb ?_|refine J3 ?_|refine Ja ?_|refine Zs ?_|refine Zv ?_|refine J7 ?_|refine J9 ?_|refine J4 ?_|refine Zt ?_|refine Zu ?_
     exact Jm hf
    ·
     repeat' first|refine Z1 ?_|refine Z2 ?_|refine Z3 ?_|refine Z4 ?_|refine Z5 ?_|refine Z6 ?_|refine Z7 ?_|refine Z8 ?_|refine Z9 ?_|refine Za (fun hc=>?_) (fun hc=>?_)|refine Zb (fun hc=>?_) (fun hc=>?_)|refine Zc (hps) ?_|refine Ysl (e:=eSm) (l:=l) (i+1) (i+1+y.length) y c1 ?_|refine Ysl (e:=eSm) (l:=l) (i+1+y.length+1) (i+1+y.length+1+n.length) n c2 ?_|refine Zc (hy) ?_|refine Zc (hn) ?_|refine Zd ?_|refine Ze ?_|refine Zf ?_|refine Zg ?_|refine Zh ?_|refine Zi ?_|refine Zj ?_|refine Zk ?_|refine Zl ?_|refine Zm ?_|refine Zn (fun hc=>?_) (fun hc=>?_)|refine Zo ?_|refine J6 ?_|refine Jf ?_|refine Zp ?_|refine Zq ?_|refine Zr (fun hc=>?_) (fun hc=>?_)|refine J5 ?_|refine Jh ?_|refine J8 ?_|refine Jb ?_|refine J3 ?_|refine Ja ?_|refine Zs ?_|refine Zv ?_|refine J7 ?_|refine J9 ?_|refine J4 ?_|refine Zt ?_|refine Zu ?_
     exact⟨i+1+y.length+1+n.length+1,⟨by omega,hbk.trans hg⟩,by(try simp only);omega,Jl (Nat.zero_le _) ⟨⟨rfl,rfl⟩,⟨rfl,rfl⟩,⟨rfl,rfl⟩,⟨rfl,rfl⟩,trivial⟩ trivial⟩
  have d4:decide (s.kind=4)=false:=J1 k4
  rw[hd,J7R k4 k5 k6]at i2
  repeat' first|refine Z1 ?_|refine Z2 ?_|refine Z3 ?_|refine Z4 ?_|refine Z5 ?_|refine Z6 ?_|refine Z7 ?_|refine Z8 ?_|refine Z9 ?_|refine Za (fun hc=>?_) (fun hc=>?_)|refine Zb (fun hc=>?_) (fun hc=>?_)|refine Zd ?_|refine Ze ?_|refine Zf ?_|refine Zg ?_|refine Zh ?_|refine Zi ?_|refine Zj ?_|refine Zk ?_|refine Zl ?_|refine Zm ?_|refine Zn (fun hc=>?_) (fun hc=>?_)|refine Zo ?_|refine J6 ?_|refine Jf ?_|refine Zp ?_|refine Zq ?_|refine Zr (fun hc=>?_) (fun hc=>?_)|refine J5 ?_|refine Jh ?_|refine J8 ?_|refine Jb ?_|refine J3 ?_|refine Ja ?_|refine Zs ?_|refine Zv ?_|refine J7 ?_|refine J9 ?_|refine J4 ?_|refine Zt ?_|refine Zu ?_
  exact⟨i+1,⟨hlt,i2⟩,by(try simp only);omega,Jl (Nat.zero_le _) ⟨⟨rfl,rfl⟩,⟨rfl,rfl⟩,⟨rfl,rfl⟩,⟨rfl,rfl⟩,trivial⟩ trivial⟩
end Go.Pm
/- Part of the proof: Tom. -/
namespace Go.Pm
attribute [local irreducible] AR Ok inBlock andThen endQ aoper
set_option maxHeartbeats 1000000
open Go.Proofs
theorem JE {α:Type} {w:α→Nat} {x:α}:∀{l:List α},x∈l→w x≤(l.map w).sum
 |y::l,h=>by
  simp only[List.map_cons,List.sum_cons]
  rcases List.mem_cons.1 h with rfl|h
  ·omega
  ·have:=JE (w:=w) h;omega
theorem J6h (x:Itm) (hw:wItm x≤1048576):PFun X 215 [.agg ((eItm x).map .d)] (.agg ((eItm x).map .d)):=by
 simp only[wItm]at hw
 refine Jn Tryz.func215 rfl (by decide) Tryz.ntmps215 Tryz.results215 (by simp) rfl rfl ?_
 repeat' first|refine Z1 ?_|refine Z2 ?_|refine Zo ?_|refine Jb ?_|refine Zu ?_
 rfl
theorem J99 (x:Itm) (hw:wItm x≤1048576):PFun X 216 [.agg ((eItm x).map .d),.agg ((eItm x).map .d)] (vb true):=by
 simp only[wItm]at hw
 have ht:(!true)=false:=rfl
 have e0:decide (x.op≠x.op)=false:=J1 (fun h=>h rfl)
 have e1:decide (x.val≠x.val)=false:=J1 (fun h=>h rfl)
 have e2:decide (x.name≠x.name)=false:=J1 (fun h=>h rfl)
 refine Jn Tryz.func216 rfl (by decide) Tryz.ntmps216 Tryz.results216 (by simp) rfl rfl ?_
 repeat' first|refine Z1 ?_|refine Z2 ?_|refine Zo ?_|refine J6 ?_|refine Zq ?_|refine J8 ?_|refine Jb ?_|refine J3 ?_|refine Zt ?_
 rfl
theorem J4w (l:List (Itm)) (hw:wL (wItm) l≤1048576):PFun X 191 [.d (.im (l.map eItm))] (.d (.im (l.map eItm))):=by
 simp only[wL]at hw
 refine Jn Tryz.func191 rfl (by decide) Tryz.ntmps191 Tryz.results191 (by simp) rfl rfl ?_
 repeat' first|refine Z1 ?_|refine Z2 ?_|refine Z5 ?_|refine J04 (k:=l.length) rfl rfl (by omega) rfl rfl rfl rfl rfl rfl ?_|refine Zd ?_|refine Zo ?_|refine J6 ?_|refine J5 ?_
 refine Jq (ι:=Nat) (fun x=>envL [(0,.d (.im (l.map eItm))),(3,.sl 0 0 0 l.length),(4,vi x)]) (fun x=>stL [some (.row 0 156 3 (trk eItm l x [.d (.s (.int .i64 0)),.d (.s (.int .i64 0)),.d (.s (.string .empty))]))]) (fun x=>x≤l.length) (fun x=>l.length-x) 0 (Nat.zero_le _) (Jj rfl ⟨.refl _,.refl _,.refl _,trivial⟩ ⟨⟨rfl,_,rfl,rfl,rfl,rfl,rfl⟩,trivial⟩) (fun _=>Nat.le_refl 1) ?_
 intro k i1
 rcases hx:l[k]? with _|x
 ·have hle:=Jo hx
  have ek:decide ((k:Int)<(l.length:Int))=false:=J1 (by omega)
  repeat' first|refine Z1 ?_|refine Z2 ?_|refine Z5 ?_|refine Zd ?_|refine J0I (J0i hle) 2 rfl rfl rfl ?_|refine Zo ?_|refine J6 ?_|refine Zq ?_|refine Jh ?_|refine Jb ?_|refine J3 ?_|refine Ja ?_|refine Zv ?_|refine Zt ?_
  rfl
 ·obtain⟨hdr,hlt⟩:=Ji hx
  have hwx:=JE (w:=wItm) (List.mem_of_getElem? hx)
  have ek:decide ((k:Int)<(l.length:Int))=true:=J0 (by omega)
  repeat' first|refine Z1 ?_|refine Z2 ?_|refine Z3 ?_|refine Z5 ?_|refine Jy rfl rfl hlt rfl rfl rfl rfl ?_|refine J0g hx rfl rfl rfl rfl rfl rfl rfl rfl ?_|refine Zc (J6h x (by omega)) ?_|refine Zd ?_|refine Ze ?_|refine Zf ?_|refine Zo ?_|refine J6 ?_|refine Jf ?_|refine Zp ?_|refine J5 ?_|refine J8 ?_|refine J3 ?_|refine J4 ?_
  exact⟨k+1,hlt,by(try simp only);omega,Jl (Nat.le_of_ble_eq_true rfl) ⟨⟨rfl,rfl⟩,⟨rfl,rfl⟩,⟨rfl,rfl⟩,trivial⟩ ⟨⟨rfl,Je rfl,J0f _ _ _ _ rfl⟩,trivial⟩⟩
theorem J56 (l:List (Itm)) (hw:wL (wItm) l≤1048576):PFun X 193 [.d (.im (l.map eItm)),.d (.im (l.map eItm))] (vb true):=by
 have ht:(!true)=false:=rfl
 simp only[wL]at hw
 have e0:decide ((l.length:Int)≠(l.length:Int))=false:=J1 (fun h=>h rfl)
 refine Jn Tryz.func193 rfl (by decide) Tryz.ntmps193 Tryz.results193 (by simp) rfl rfl ?_
 repeat' first|refine Z1 ?_|refine Z2 ?_|refine Z5 ?_|refine Zd ?_|refine Zo ?_|refine J6 ?_|refine Zq ?_|refine J5 ?_|refine J8 ?_|refine J3 ?_
 refine Jq (ι:=Nat) (fun x=>envL [(0,.d (.im (l.map eItm))),(1,.d (.im (l.map eItm))),(4,vb false),(5,vi x)]) (fun x=>stL []) (fun x=>x≤l.length) (fun x=>l.length-x) 0 (Nat.zero_le _) (Jj rfl ⟨.refl _,.refl _,.refl _,.refl _,trivial⟩ trivial) (fun _=>Nat.le_refl 0) ?_
 intro k i1
 rcases hx:l[k]? with _|x
 ·have hle:=Jo hx
  have ek:decide ((k:Int)<(l.length:Int))=false:=J1 (by omega)
  repeat' first|refine Z1 ?_|refine Z2 ?_|refine Z5 ?_|refine Zd ?_|refine Zo ?_|refine J6 ?_|refine Zq ?_|refine Jh ?_|refine Jb ?_|refine J3 ?_|refine Ja ?_|refine Zv ?_|refine Zt ?_
  rfl
 ·obtain⟨hdr,hlt⟩:=Ji hx
  have hwx:=JE (w:=wItm) (List.mem_of_getElem? hx)
  have ek:decide ((k:Int)<(l.length:Int))=true:=J0 (by omega)
  repeat' first|refine Z1 ?_|refine Z2 ?_|refine Z5 ?_|refine Zd ?_|refine Zf ?_|refine Zw ?_|refine Zx ?_|refine Zz (Zc (J99 x (by omega)) ⟨rfl,rfl⟩) ?_|refine Zz (Ze ⟨rfl,rfl⟩) ?_|refine Zo ?_|refine J6 ?_|refine Jf ?_|refine Jx Jp (by decide +kernel) ?_|refine Zp ?_|refine Zq ?_|refine J5 ?_|refine J8 ?_|refine J3 ?_|refine J4 ?_
  exact⟨k+1,hlt,by(try simp only);omega,Jl (Nat.zero_le _) ⟨⟨rfl,rfl⟩,⟨rfl,rfl⟩,⟨rfl,rfl⟩,⟨rfl,rfl⟩,trivial⟩ trivial⟩
theorem J3a (l:List (ByteArray)) (hw:wL (wStr) l≤1048576):PFun X 112 [.d (.im (l.map eStr))] (.d (.im (l.map eStr))):=by
 simp only[wL]at hw
 refine Jn Tryz.func112 rfl (by decide) Tryz.ntmps112 Tryz.results112 (by simp) rfl rfl ?_
 repeat' first|refine Z1 ?_|refine Z2 ?_|refine Z5 ?_|refine J04 (k:=l.length) rfl rfl (by omega) rfl rfl rfl rfl rfl rfl ?_|refine Zd ?_|refine Zo ?_|refine J6 ?_|refine J5 ?_
 refine Jq (ι:=Nat) (fun x=>envL [(0,.d (.im (l.map eStr))),(3,.sl 0 0 0 l.length),(4,vi x)]) (fun x=>stL [some (.row 0 9 1 (trk eStr l x [.d (.s (.string .empty))]))]) (fun x=>x≤l.length) (fun x=>l.length-x) 0 (Nat.zero_le _) (Jj rfl ⟨.refl _,.refl _,.refl _,trivial⟩ ⟨⟨rfl,_,rfl,rfl,rfl,rfl,rfl⟩,trivial⟩) (fun _=>Nat.le_refl 1) ?_
 intro k i1
 rcases hx:l[k]? with _|x
 ·have hle:=Jo hx
  have ek:decide ((k:Int)<(l.length:Int))=false:=J1 (by omega)
  repeat' first|refine Z1 ?_|refine Z2 ?_|refine Z5 ?_|refine Zd ?_|refine J0I (J0i hle) 2 rfl rfl rfl ?_|refine Zo ?_|refine J6 ?_|refine Zq ?_|refine Jh ?_|refine Jb ?_|refine J3 ?_|refine Ja ?_|refine Zv ?_|refine Zt ?_
  rfl
 ·obtain⟨hdr,hlt⟩:=Ji hx
  have hwx:=JE (w:=wStr) (List.mem_of_getElem? hx)
  have ek:decide ((k:Int)<(l.length:Int))=true:=J0 (by omega)
  repeat' first|refine Z1 ?_|refine Z2 ?_|refine Z3 ?_|refine Z5 ?_|refine Jy rfl rfl hlt rfl rfl rfl rfl ?_|refine J0g hx rfl rfl rfl rfl rfl rfl rfl rfl ?_|refine Zd ?_|refine Ze ?_|refine Zf ?_|refine Zo ?_|refine J6 ?_|refine Jf ?_|refine Zp ?_|refine J5 ?_|refine J8 ?_|refine J3 ?_|refine J4 ?_
  exact⟨k+1,hlt,by(try simp only);omega,Jl (Nat.le_of_ble_eq_true rfl) ⟨⟨rfl,rfl⟩,⟨rfl,rfl⟩,⟨rfl,rfl⟩,trivial⟩ ⟨⟨rfl,Je rfl,J0f _ _ _ _ rfl⟩,trivial⟩⟩
theorem J3e (l:List (ByteArray)) (hw:wL (wStr) l≤1048576):PFun X 124 [.d (.im (l.map eStr)),.d (.im (l.map eStr))] (vb true):=by
 have ht:(!true)=false:=rfl
 simp only[wL]at hw
 have e0:decide ((l.length:Int)≠(l.length:Int))=false:=J1 (fun h=>h rfl)
 refine Jn Tryz.func124 rfl (by decide) Tryz.ntmps124 Tryz.results124 (by simp) rfl rfl ?_
 repeat' first|refine Z1 ?_|refine Z2 ?_|refine Z5 ?_|refine Zd ?_|refine Zo ?_|refine J6 ?_|refine Zq ?_|refine J5 ?_|refine J8 ?_|refine J3 ?_
 refine Jq (ι:=Nat) (fun x=>envL [(0,.d (.im (l.map eStr))),(1,.d (.im (l.map eStr))),(4,vb false),(5,vi x)]) (fun x=>stL []) (fun x=>x≤l.length) (fun x=>l.length-x) 0 (Nat.zero_le _) (Jj rfl ⟨.refl _,.refl _,.refl _,.refl _,trivial⟩ trivial) (fun _=>Nat.le_refl 0) ?_
 intro k i1
 rcases hx:l[k]? with _|x
 ·have hle:=Jo hx
  have ek:decide ((k:Int)<(l.length:Int))=false:=J1 (by omega)
  repeat' first|refine Z1 ?_|refine Z2 ?_|refine Z5 ?_|refine Zd ?_|refine Zo ?_|refine J6 ?_|refine Zq ?_|refine Jh ?_|refine Jb ?_|refine J3 ?_|refine Ja ?_|refine Zv ?_|refine Zt ?_
  rfl
 ·obtain⟨hdr,hlt⟩:=Ji hx
  have hwx:=JE (w:=wStr) (List.mem_of_getElem? hx)
  have ek:decide ((k:Int)<(l.length:Int))=true:=J0 (by omega)
  have ee:decide (x≠x)=false:=J1 (fun h=>h rfl)
  repeat' first|refine Z1 ?_|refine Z2 ?_|refine Z5 ?_|refine Zd ?_|refine Zf ?_|refine Zw ?_|refine Zx ?_|refine Zz (Ze ⟨rfl,rfl⟩) ?_|refine Zo ?_|refine J6 ?_|refine Jf ?_|refine Jx Jp (by decide +kernel) ?_|refine Zp ?_|refine Zq ?_|refine J5 ?_|refine J8 ?_|refine J3 ?_|refine J4 ?_
  exact⟨k+1,hlt,by(try simp only);omega,Jl (Nat.zero_le _) ⟨⟨rfl,rfl⟩,⟨rfl,rfl⟩,⟨rfl,rfl⟩,⟨rfl,rfl⟩,trivial⟩ trivial⟩
theorem J2f (l:List (Int)) (hw:wL (wNum0) l≤1048576):PFun X 10 [.d (.im (l.map eNum))] (.d (.im (l.map eNum))):=by
 simp only[wL]at hw
 refine Jn Tryz.func10 rfl (by decide) Tryz.ntmps10 Tryz.results10 (by simp) rfl rfl ?_
 repeat' first|refine Z1 ?_|refine Z2 ?_|refine Z5 ?_|refine J04 (k:=l.length) rfl rfl (by omega) rfl rfl rfl rfl rfl rfl ?_|refine Zd ?_|refine Zo ?_|refine J6 ?_|refine J5 ?_
 refine Jq (ι:=Nat) (fun x=>envL [(0,.d (.im (l.map eNum))),(3,.sl 0 0 0 l.length),(4,vi x)]) (fun x=>stL [some (.row 0 3 1 (trk eNum l x [.d (.s (.int .i64 0))]))]) (fun x=>x≤l.length) (fun x=>l.length-x) 0 (Nat.zero_le _) (Jj rfl ⟨.refl _,.refl _,.refl _,trivial⟩ ⟨⟨rfl,_,rfl,rfl,rfl,rfl,rfl⟩,trivial⟩) (fun _=>Nat.le_refl 1) ?_
 intro k i1
 rcases hx:l[k]? with _|x
 ·have hle:=Jo hx
  have ek:decide ((k:Int)<(l.length:Int))=false:=J1 (by omega)
  repeat' first|refine Z1 ?_|refine Z2 ?_|refine Z5 ?_|refine Zd ?_|refine J0I (J0i hle) 2 rfl rfl rfl ?_|refine Zo ?_|refine J6 ?_|refine Zq ?_|refine Jh ?_|refine Jb ?_|refine J3 ?_|refine Ja ?_|refine Zv ?_|refine Zt ?_
  rfl
 ·obtain⟨hdr,hlt⟩:=Ji hx
  have hwx:=JE (w:=wNum0) (List.mem_of_getElem? hx)
  have ek:decide ((k:Int)<(l.length:Int))=true:=J0 (by omega)
  repeat' first|refine Z1 ?_|refine Z2 ?_|refine Z3 ?_|refine Z5 ?_|refine Jy rfl rfl hlt rfl rfl rfl rfl ?_|refine J0g hx rfl rfl rfl rfl rfl rfl rfl rfl ?_|refine Zd ?_|refine Ze ?_|refine Zf ?_|refine Zo ?_|refine J6 ?_|refine Jf ?_|refine Zp ?_|refine J5 ?_|refine J8 ?_|refine J3 ?_|refine J4 ?_
  exact⟨k+1,hlt,by(try simp only);omega,Jl (Nat.le_of_ble_eq_true rfl) ⟨⟨rfl,rfl⟩,⟨rfl,rfl⟩,⟨rfl,rfl⟩,trivial⟩ ⟨⟨rfl,Je rfl,J0f _ _ _ _ rfl⟩,trivial⟩⟩
theorem J3s (l:List (Int)) (hw:wL (wNum0) l≤1048576):PFun X 12 [.d (.im (l.map eNum)),.d (.im (l.map eNum))] (vb true):=by
 have ht:(!true)=false:=rfl
 simp only[wL]at hw
 have e0:decide ((l.length:Int)≠(l.length:Int))=false:=J1 (fun h=>h rfl)
 refine Jn Tryz.func12 rfl (by decide) Tryz.ntmps12 Tryz.results12 (by simp) rfl rfl ?_
 repeat' first|refine Z1 ?_|refine Z2 ?_|refine Z5 ?_|refine Zd ?_|refine Zo ?_|refine J6 ?_|refine Zq ?_|refine J5 ?_|refine J8 ?_|refine J3 ?_
 refine Jq (ι:=Nat) (fun x=>envL [(0,.d (.im (l.map eNum))),(1,.d (.im (l.map eNum))),(4,vb false),(5,vi x)]) (fun x=>stL []) (fun x=>x≤l.length) (fun x=>l.length-x) 0 (Nat.zero_le _) (Jj rfl ⟨.refl _,.refl _,.refl _,.refl _,trivial⟩ trivial) (fun _=>Nat.le_refl 0) ?_
 intro k i1
 rcases hx:l[k]? with _|x
 ·have hle:=Jo hx
  have ek:decide ((k:Int)<(l.length:Int))=false:=J1 (by omega)
  repeat' first|refine Z1 ?_|refine Z2 ?_|refine Z5 ?_|refine Zd ?_|refine Zo ?_|refine J6 ?_|refine Zq ?_|refine Jh ?_|refine Jb ?_|refine J3 ?_|refine Ja ?_|refine Zv ?_|refine Zt ?_
  rfl
 ·obtain⟨hdr,hlt⟩:=Ji hx
  have hwx:=JE (w:=wNum0) (List.mem_of_getElem? hx)
  have ek:decide ((k:Int)<(l.length:Int))=true:=J0 (by omega)
  have ee:decide (x≠x)=false:=J1 (fun h=>h rfl)
  repeat' first|refine Z1 ?_|refine Z2 ?_|refine Z5 ?_|refine Zd ?_|refine Zf ?_|refine Zw ?_|refine Zx ?_|refine Zz (Ze ⟨rfl,rfl⟩) ?_|refine Zo ?_|refine J6 ?_|refine Jf ?_|refine Jx Jp (by decide +kernel) ?_|refine Zp ?_|refine Zq ?_|refine J5 ?_|refine J8 ?_|refine J3 ?_|refine J4 ?_
  exact⟨k+1,hlt,by(try simp only);omega,Jl (Nat.zero_le _) ⟨⟨rfl,rfl⟩,⟨rfl,rfl⟩,⟨rfl,rfl⟩,⟨rfl,rfl⟩,trivial⟩ trivial⟩
theorem J7q (l:List (List Itm)) (hw:wL (wL wItm) l≤1048576):PFun X 192 [.d (.im (l.map eItms))] (.d (.im (l.map eItms))):=by
 simp only[wL]at hw
 refine Jn Tryz.func192 rfl (by decide) Tryz.ntmps192 Tryz.results192 (by simp) rfl rfl ?_
 repeat' first|refine Z1 ?_|refine Z2 ?_|refine Z5 ?_|refine J04 (k:=l.length) rfl rfl (by omega) rfl rfl rfl rfl rfl rfl ?_|refine Zd ?_|refine Zo ?_|refine J6 ?_|refine J5 ?_
 refine Jq (ι:=Nat) (fun x=>envL [(0,.d (.im (l.map eItms))),(3,.sl 0 0 0 l.length),(4,vi x)]) (fun x=>stL [some (.row 0 91 1 (trk eItms l x [.d (.s (.slice none 0 0))]))]) (fun x=>x≤l.length) (fun x=>l.length-x) 0 (Nat.zero_le _) (Jj rfl ⟨.refl _,.refl _,.refl _,trivial⟩ ⟨⟨rfl,_,rfl,rfl,rfl,rfl,rfl⟩,trivial⟩) (fun _=>Nat.le_refl 1) ?_
 intro k i1
 rcases hx:l[k]? with _|x
 ·have hle:=Jo hx
  have ek:decide ((k:Int)<(l.length:Int))=false:=J1 (by omega)
  repeat' first|refine Z1 ?_|refine Z2 ?_|refine Z5 ?_|refine Zd ?_|refine J0I (J0i hle) 2 rfl rfl rfl ?_|refine Zo ?_|refine J6 ?_|refine Zq ?_|refine Jh ?_|refine Jb ?_|refine J3 ?_|refine Ja ?_|refine Zv ?_|refine Zt ?_
  rfl
 ·obtain⟨hdr,hlt⟩:=Ji hx
  have hwx:=JE (w:=wL wItm) (List.mem_of_getElem? hx)
  have ek:decide ((k:Int)<(l.length:Int))=true:=J0 (by omega)
  repeat' first|refine Z1 ?_|refine Z2 ?_|refine Z3 ?_|refine Z5 ?_|refine Jy rfl rfl hlt rfl rfl rfl rfl ?_|refine J0g hx rfl rfl rfl rfl rfl rfl rfl rfl ?_|refine Zc (J4w x (by omega)) ?_|refine Zd ?_|refine Ze ?_|refine Zf ?_|refine Zo ?_|refine J6 ?_|refine Jf ?_|refine Zp ?_|refine J5 ?_|refine J8 ?_|refine J3 ?_|refine J4 ?_
  exact⟨k+1,hlt,by(try simp only);omega,Jl (Nat.le_of_ble_eq_true rfl) ⟨⟨rfl,rfl⟩,⟨rfl,rfl⟩,⟨rfl,rfl⟩,trivial⟩ ⟨⟨rfl,Je rfl,J0f _ _ _ _ rfl⟩,trivial⟩⟩
theorem J7t (l:List (List Itm)) (hw:wL (wL wItm) l≤1048576):PFun X 194 [.d (.im (l.map eItms)),.d (.im (l.map eItms))] (vb true):=by
 have ht:(!true)=false:=rfl
 simp only[wL]at hw
 have e0:decide ((l.length:Int)≠(l.length:Int))=false:=J1 (fun h=>h rfl)
 refine Jn Tryz.func194 rfl (by decide) Tryz.ntmps194 Tryz.results194 (by simp) rfl rfl ?_
 repeat' first|refine Z1 ?_|refine Z2 ?_|refine Z5 ?_|refine Zd ?_|refine Zo ?_|refine J6 ?_|refine Zq ?_|refine J5 ?_|refine J8 ?_|refine J3 ?_
 refine Jq (ι:=Nat) (fun x=>envL [(0,.d (.im (l.map eItms))),(1,.d (.im (l.map eItms))),(4,vb false),(5,vi x)]) (fun x=>stL []) (fun x=>x≤l.length) (fun x=>l.length-x) 0 (Nat.zero_le _) (Jj rfl ⟨.refl _,.refl _,.refl _,.refl _,trivial⟩ trivial) (fun _=>Nat.le_refl 0) ?_
 intro k i1
 rcases hx:l[k]? with _|x
 ·have hle:=Jo hx
  have ek:decide ((k:Int)<(l.length:Int))=false:=J1 (by omega)
  repeat' first|refine Z1 ?_|refine Z2 ?_|refine Z5 ?_|refine Zd ?_|refine Zo ?_|refine J6 ?_|refine Zq ?_|refine Jh ?_|refine Jb ?_|refine J3 ?_|refine Ja ?_|refine Zv ?_|refine Zt ?_
  rfl
 ·obtain⟨hdr,hlt⟩:=Ji hx
  have hwx:=JE (w:=wL wItm) (List.mem_of_getElem? hx)
  have ek:decide ((k:Int)<(l.length:Int))=true:=J0 (by omega)
  repeat' first|refine Z1 ?_|refine Z2 ?_|refine Z5 ?_|refine Zd ?_|refine Zf ?_|refine Zw ?_|refine Zx ?_|refine Zz (Zc (J56 x (by first|omega|(simp only[wL];omega))) ⟨rfl,rfl⟩) ?_|refine Zz (Ze ⟨rfl,rfl⟩) ?_|refine Zo ?_|refine J6 ?_|refine Jf ?_|refine Jx Jp (by decide +kernel) ?_|refine Zp ?_|refine Zq ?_|refine J5 ?_|refine J8 ?_|refine J3 ?_|refine J4 ?_
  exact⟨k+1,hlt,by(try simp only);omega,Jl (Nat.zero_le _) ⟨⟨rfl,rfl⟩,⟨rfl,rfl⟩,⟨rfl,rfl⟩,⟨rfl,rfl⟩,trivial⟩ trivial⟩
theorem J67 (x:Slt) (hw:wSlt x≤1048576):PFun X 158 [.agg ((eSlt x).map .d)] (.agg ((eSlt x).map .d)):=by
 simp only[wSlt]at hw
 refine Jn Tryz.func158 rfl (by decide) Tryz.ntmps158 Tryz.results158 (by simp) rfl rfl ?_
 repeat' first|refine Z1 ?_|refine Z2 ?_|refine Zo ?_|refine Jb ?_|refine Zu ?_
 rfl
theorem J8U (x:Slt) (hw:wSlt x≤1048576):PFun X 163 [.agg ((eSlt x).map .d),.agg ((eSlt x).map .d)] (vb true):=by
 simp only[wSlt]at hw
 have ht:(!true)=false:=rfl
 have e0:decide (x.name≠x.name)=false:=J1 (fun h=>h rfl)
 have e1:decide (x.type≠x.type)=false:=J1 (fun h=>h rfl)
 refine Jn Tryz.func163 rfl (by decide) Tryz.ntmps163 Tryz.results163 (by simp) rfl rfl ?_
 repeat' first|refine Z1 ?_|refine Z2 ?_|refine Zo ?_|refine J6 ?_|refine Zq ?_|refine J8 ?_|refine Jb ?_|refine J3 ?_|refine Zt ?_
 rfl
theorem J5l (l:List (Slt)) (hw:wL (wSlt) l≤1048576):PFun X 111 [.d (.im (l.map eSlt))] (.d (.im (l.map eSlt))):=by
 simp only[wL]at hw
 refine Jn Tryz.func111 rfl (by decide) Tryz.ntmps111 Tryz.results111 (by simp) rfl rfl ?_
 repeat' first|refine Z1 ?_|refine Z2 ?_|refine Z5 ?_|refine J04 (k:=l.length) rfl rfl (by omega) rfl rfl rfl rfl rfl rfl ?_|refine Zd ?_|refine Zo ?_|refine J6 ?_|refine J5 ?_
 refine Jq (ι:=Nat) (fun x=>envL [(0,.d (.im (l.map eSlt))),(3,.sl 0 0 0 l.length),(4,vi x)]) (fun x=>stL [some (.row 0 88 2 (trk eSlt l x [.d (.s (.string .empty)),.d (.s (.int .i64 0))]))]) (fun x=>x≤l.length) (fun x=>l.length-x) 0 (Nat.zero_le _) (Jj rfl ⟨.refl _,.refl _,.refl _,trivial⟩ ⟨⟨rfl,_,rfl,rfl,rfl,rfl,rfl⟩,trivial⟩) (fun _=>Nat.le_refl 1) ?_
 intro k i1
 rcases hx:l[k]? with _|x
 ·have hle:=Jo hx
  have ek:decide ((k:Int)<(l.length:Int))=false:=J1 (by omega)
  repeat' first|refine Z1 ?_|refine Z2 ?_|refine Z5 ?_|refine Zd ?_|refine J0I (J0i hle) 2 rfl rfl rfl ?_|refine Zo ?_|refine J6 ?_|refine Zq ?_|refine Jh ?_|refine Jb ?_|refine J3 ?_|refine Ja ?_|refine Zv ?_|refine Zt ?_
  rfl
 ·obtain⟨hdr,hlt⟩:=Ji hx
  have hwx:=JE (w:=wSlt) (List.mem_of_getElem? hx)
  have ek:decide ((k:Int)<(l.length:Int))=true:=J0 (by omega)
  repeat' first|refine Z1 ?_|refine Z2 ?_|refine Z3 ?_|refine Z5 ?_|refine Jy rfl rfl hlt rfl rfl rfl rfl ?_|refine J0g hx rfl rfl rfl rfl rfl rfl rfl rfl ?_|refine Zc (J67 x (by omega)) ?_|refine Zd ?_|refine Ze ?_|refine Zf ?_|refine Zo ?_|refine J6 ?_|refine Jf ?_|refine Zp ?_|refine J5 ?_|refine J8 ?_|refine J3 ?_|refine J4 ?_
  exact⟨k+1,hlt,by(try simp only);omega,Jl (Nat.le_of_ble_eq_true rfl) ⟨⟨rfl,rfl⟩,⟨rfl,rfl⟩,⟨rfl,rfl⟩,trivial⟩ ⟨⟨rfl,Je rfl,J0f _ _ _ _ rfl⟩,trivial⟩⟩
theorem J4k (l:List (Slt)) (hw:wL (wSlt) l≤1048576):PFun X 123 [.d (.im (l.map eSlt)),.d (.im (l.map eSlt))] (vb true):=by
 have ht:(!true)=false:=rfl
 simp only[wL]at hw
 have e0:decide ((l.length:Int)≠(l.length:Int))=false:=J1 (fun h=>h rfl)
 refine Jn Tryz.func123 rfl (by decide) Tryz.ntmps123 Tryz.results123 (by simp) rfl rfl ?_
 repeat' first|refine Z1 ?_|refine Z2 ?_|refine Z5 ?_|refine Zd ?_|refine Zo ?_|refine J6 ?_|refine Zq ?_|refine J5 ?_|refine J8 ?_|refine J3 ?_
 refine Jq (ι:=Nat) (fun x=>envL [(0,.d (.im (l.map eSlt))),(1,.d (.im (l.map eSlt))),(4,vb false),(5,vi x)]) (fun x=>stL []) (fun x=>x≤l.length) (fun x=>l.length-x) 0 (Nat.zero_le _) (Jj rfl ⟨.refl _,.refl _,.refl _,.refl _,trivial⟩ trivial) (fun _=>Nat.le_refl 0) ?_
 intro k i1
 rcases hx:l[k]? with _|x
 ·have hle:=Jo hx
  have ek:decide ((k:Int)<(l.length:Int))=false:=J1 (by omega)
  repeat' first|refine Z1 ?_|refine Z2 ?_|refine Z5 ?_|refine Zd ?_|refine Zo ?_|refine J6 ?_|refine Zq ?_|refine Jh ?_|refine Jb ?_|refine J3 ?_|refine Ja ?_|refine Zv ?_|refine Zt ?_
  rfl
 ·obtain⟨hdr,hlt⟩:=Ji hx
  have hwx:=JE (w:=wSlt) (List.mem_of_getElem? hx)
  have ek:decide ((k:Int)<(l.length:Int))=true:=J0 (by omega)
  repeat' first|refine Z1 ?_|refine Z2 ?_|refine Z5 ?_|refine Zd ?_|refine Zf ?_|refine Zw ?_|refine Zx ?_|refine Zz (Zc (J8U x (by omega)) ⟨rfl,rfl⟩) ?_|refine Zz (Ze ⟨rfl,rfl⟩) ?_|refine Zo ?_|refine J6 ?_|refine Jf ?_|refine Jx Jp (by decide +kernel) ?_|refine Zp ?_|refine Zq ?_|refine J5 ?_|refine J8 ?_|refine J3 ?_|refine J4 ?_
  exact⟨k+1,hlt,by(try simp only);omega,Jl (Nat.zero_le _) ⟨⟨rfl,rfl⟩,⟨rfl,rfl⟩,⟨rfl,rfl⟩,⟨rfl,rfl⟩,trivial⟩ trivial⟩
theorem Ja4 (x:Sm) (hw:wSm x≤1048576):PFun X 159 [.agg ((eSm x).map .d)] (.agg ((eSm x).map .d)):=by
 simp only[wSm,wL]at hw
 refine Jn Tryz.func159 rfl (by decide) Tryz.ntmps159 Tryz.results159 (by simp) rfl rfl ?_
 repeat' first|refine Z1 ?_|refine Z2 ?_|refine Z5 ?_|refine Zc (J3a x.outs (by simp only[wL];omega)) ?_|refine Zc (J4w x.code (by simp only[wL];omega)) ?_|refine Zc (J7q x.args (by simp only[wL];omega)) ?_|refine Zo ?_|refine Jb ?_|refine Zu ?_
 rfl
theorem Ja0 (x:Sm) (hw:wSm x≤1048576):PFun X 164 [.agg ((eSm x).map .d),.agg ((eSm x).map .d)] (vb true):=by
 simp only[wSm,wL]at hw
 have ht:(!true)=false:=rfl
 have e0:decide (x.kind≠x.kind)=false:=J1 (fun h=>h rfl)
 have e1:decide (x.name≠x.name)=false:=J1 (fun h=>h rfl)
 have e2:decide (x.pos≠x.pos)=false:=J1 (fun h=>h rfl)
 refine Jn Tryz.func164 rfl (by decide) Tryz.ntmps164 Tryz.results164 (by simp) rfl rfl ?_
 repeat' first|refine Z1 ?_|refine Z2 ?_|refine Z5 ?_|refine Zc (J3e x.outs (by first|omega|(simp only[wL];omega))) ?_|refine Zc (J56 x.code (by first|omega|(simp only[wL];omega))) ?_|refine Zc (J7t x.args (by first|omega|(simp only[wL];omega))) ?_|refine Zo ?_|refine J6 ?_|refine Zq ?_|refine J8 ?_|refine Jb ?_|refine J3 ?_|refine Zt ?_
 rfl
theorem J9r (l:List (Sm)) (hw:wL (wSm) l≤1048576):PFun X 113 [.d (.im (l.map eSm))] (.d (.im (l.map eSm))):=by
 simp only[wL]at hw
 refine Jn Tryz.func113 rfl (by decide) Tryz.ntmps113 Tryz.results113 (by simp) rfl rfl ?_
 repeat' first|refine Z1 ?_|refine Z2 ?_|refine Z5 ?_|refine J04 (k:=l.length) rfl rfl (by omega) rfl rfl rfl rfl rfl rfl ?_|refine Zd ?_|refine Zo ?_|refine J6 ?_|refine J5 ?_
 refine Jq (ι:=Nat) (fun x=>envL [(0,.d (.im (l.map eSm))),(3,.sl 0 0 0 l.length),(4,vi x)]) (fun x=>stL [some (.row 0 96 6 (trk eSm l x [.d (.s (.int .i64 0)),.d (.s (.string .empty)),.d (.s (.int .i64 0)),.d (.s (.slice none 0 0)),.d (.s (.slice none 0 0)),.d (.s (.slice none 0 0))]))]) (fun x=>x≤l.length) (fun x=>l.length-x) 0 (Nat.zero_le _) (Jj rfl ⟨.refl _,.refl _,.refl _,trivial⟩ ⟨⟨rfl,_,rfl,rfl,rfl,rfl,rfl⟩,trivial⟩) (fun _=>Nat.le_refl 1) ?_
 intro k i1
 rcases hx:l[k]? with _|x
 ·have hle:=Jo hx
  have ek:decide ((k:Int)<(l.length:Int))=false:=J1 (by omega)
  repeat' first|refine Z1 ?_|refine Z2 ?_|refine Z5 ?_|refine Zd ?_|refine J0I (J0i hle) 2 rfl rfl rfl ?_|refine Zo ?_|refine J6 ?_|refine Zq ?_|refine Jh ?_|refine Jb ?_|refine J3 ?_|refine Ja ?_|refine Zv ?_|refine Zt ?_
  rfl
 ·obtain⟨hdr,hlt⟩:=Ji hx
  have hwx:=JE (w:=wSm) (List.mem_of_getElem? hx)
  have ek:decide ((k:Int)<(l.length:Int))=true:=J0 (by omega)
  repeat' first|refine Z1 ?_|refine Z2 ?_|refine Z3 ?_|refine Z5 ?_|refine Jy rfl rfl hlt rfl rfl rfl rfl ?_|refine J0g hx rfl rfl rfl rfl rfl rfl rfl rfl ?_|refine Zc (Ja4 x (by omega)) ?_|refine Zd ?_|refine Ze ?_|refine Zf ?_|refine Zo ?_|refine J6 ?_|refine Jf ?_|refine Zp ?_|refine J5 ?_|refine J8 ?_|refine J3 ?_|refine J4 ?_
  exact⟨k+1,hlt,by(try simp only);omega,Jl (Nat.le_of_ble_eq_true rfl) ⟨⟨rfl,rfl⟩,⟨rfl,rfl⟩,⟨rfl,rfl⟩,trivial⟩ ⟨⟨rfl,Je rfl,J0f _ _ _ _ rfl⟩,trivial⟩⟩
theorem J8S (l:List (Sm)) (hw:wL (wSm) l≤1048576):PFun X 125 [.d (.im (l.map eSm)),.d (.im (l.map eSm))] (vb true):=by
 have ht:(!true)=false:=rfl
 simp only[wL]at hw
 have e0:decide ((l.length:Int)≠(l.length:Int))=false:=J1 (fun h=>h rfl)
 refine Jn Tryz.func125 rfl (by decide) Tryz.ntmps125 Tryz.results125 (by simp) rfl rfl ?_
 repeat' first|refine Z1 ?_|refine Z2 ?_|refine Z5 ?_|refine Zd ?_|refine Zo ?_|refine J6 ?_|refine Zq ?_|refine J5 ?_|refine J8 ?_|refine J3 ?_
 refine Jq (ι:=Nat) (fun x=>envL [(0,.d (.im (l.map eSm))),(1,.d (.im (l.map eSm))),(4,vb false),(5,vi x)]) (fun x=>stL []) (fun x=>x≤l.length) (fun x=>l.length-x) 0 (Nat.zero_le _) (Jj rfl ⟨.refl _,.refl _,.refl _,.refl _,trivial⟩ trivial) (fun _=>Nat.le_refl 0) ?_
 intro k i1
 rcases hx:l[k]? with _|x
 ·have hle:=Jo hx
  have ek:decide ((k:Int)<(l.length:Int))=false:=J1 (by omega)
  repeat' first|refine Z1 ?_|refine Z2 ?_|refine Z5 ?_|refine Zd ?_|refine Zo ?_|refine J6 ?_|refine Zq ?_|refine Jh ?_|refine Jb ?_|refine J3 ?_|refine Ja ?_|refine Zv ?_|refine Zt ?_
  rfl
 ·obtain⟨hdr,hlt⟩:=Ji hx
  have hwx:=JE (w:=wSm) (List.mem_of_getElem? hx)
  have ek:decide ((k:Int)<(l.length:Int))=true:=J0 (by omega)
  repeat' first|refine Z1 ?_|refine Z2 ?_|refine Z5 ?_|refine Zd ?_|refine Zf ?_|refine Zw ?_|refine Zx ?_|refine Zz (Zc (Ja0 x (by omega)) ⟨rfl,rfl⟩) ?_|refine Zz (Ze ⟨rfl,rfl⟩) ?_|refine Zo ?_|refine J6 ?_|refine Jf ?_|refine Jx Jp (by decide +kernel) ?_|refine Zp ?_|refine Zq ?_|refine J5 ?_|refine J8 ?_|refine J3 ?_|refine J4 ?_
  exact⟨k+1,hlt,by(try simp only);omega,Jl (Nat.zero_le _) ⟨⟨rfl,rfl⟩,⟨rfl,rfl⟩,⟨rfl,rfl⟩,⟨rfl,rfl⟩,trivial⟩ trivial⟩
theorem J7K (x:Cls) (hw:wCls x≤1048576):PFun X 69 [.agg ((eCls x).map .d)] (.agg ((eCls x).map .d)):=by
 simp only[wCls,wL]at hw
 refine Jn Tryz.func69 rfl (by decide) Tryz.ntmps69 Tryz.results69 (by simp) rfl rfl ?_
 repeat' first|refine Z1 ?_|refine Z2 ?_|refine Z5 ?_|refine Zc (J5l x.ins (by simp only[wL];omega)) ?_|refine Zc (J5l x.outs (by simp only[wL];omega)) ?_|refine Zc (J3a x.locs (by simp only[wL];omega)) ?_|refine Zc (J2f x.mems (by simp only[wL];omega)) ?_|refine Zc (J2f x.insts (by simp only[wL];omega)) ?_|refine Zc (J9r x.body (by simp only[wL];omega)) ?_|refine Zo ?_|refine Jb ?_|refine Zu ?_
 rfl
theorem J7X (x:Cls) (hw:wCls x≤1048576):PFun X 73 [.agg ((eCls x).map .d),.agg ((eCls x).map .d)] (vb true):=by
 simp only[wCls,wL]at hw
 have ht:(!true)=false:=rfl
 have e0:decide (x.name≠x.name)=false:=J1 (fun h=>h rfl)
 refine Jn Tryz.func73 rfl (by decide) Tryz.ntmps73 Tryz.results73 (by simp) rfl rfl ?_
 repeat' first|refine Z1 ?_|refine Z2 ?_|refine Z5 ?_|refine Zc (J4k x.ins (by first|omega|(simp only[wL];omega))) ?_|refine Zc (J4k x.outs (by first|omega|(simp only[wL];omega))) ?_|refine Zc (J3e x.locs (by first|omega|(simp only[wL];omega))) ?_|refine Zc (J3s x.mems (by first|omega|(simp only[wL];omega))) ?_|refine Zc (J3s x.insts (by first|omega|(simp only[wL];omega))) ?_|refine Zc (J8S x.body (by first|omega|(simp only[wL];omega))) ?_|refine Zo ?_|refine J6 ?_|refine Zq ?_|refine J8 ?_|refine Jb ?_|refine J3 ?_|refine Zt ?_
 rfl
theorem J6X (l:List (Cls)) (hw:wL (wCls) l≤1048576):PFun X 29 [.d (.im (l.map eCls))] (.d (.im (l.map eCls))):=by
 simp only[wL]at hw
 refine Jn Tryz.func29 rfl (by decide) Tryz.ntmps29 Tryz.results29 (by simp) rfl rfl ?_
 repeat' first|refine Z1 ?_|refine Z2 ?_|refine Z5 ?_|refine J04 (k:=l.length) rfl rfl (by omega) rfl rfl rfl rfl rfl rfl ?_|refine Zd ?_|refine Zo ?_|refine J6 ?_|refine J5 ?_
 refine Jq (ι:=Nat) (fun x=>envL [(0,.d (.im (l.map eCls))),(3,.sl 0 0 0 l.length),(4,vi x)]) (fun x=>stL [some (.row 0 53 7 (trk eCls l x [.d (.s (.string .empty)),.d (.s (.slice none 0 0)),.d (.s (.slice none 0 0)),.d (.s (.slice none 0 0)),.d (.s (.slice none 0 0)),.d (.s (.slice none 0 0)),.d (.s (.slice none 0 0))]))]) (fun x=>x≤l.length) (fun x=>l.length-x) 0 (Nat.zero_le _) (Jj rfl ⟨.refl _,.refl _,.refl _,trivial⟩ ⟨⟨rfl,_,rfl,rfl,rfl,rfl,rfl⟩,trivial⟩) (fun _=>Nat.le_refl 1) ?_
 intro k i1
 rcases hx:l[k]? with _|x
 ·have hle:=Jo hx
  have ek:decide ((k:Int)<(l.length:Int))=false:=J1 (by omega)
  repeat' first|refine Z1 ?_|refine Z2 ?_|refine Z5 ?_|refine Zd ?_|refine J0I (J0i hle) 2 rfl rfl rfl ?_|refine Zo ?_|refine J6 ?_|refine Zq ?_|refine Jh ?_|refine Jb ?_|refine J3 ?_|refine Ja ?_|refine Zv ?_|refine Zt ?_
  rfl
 ·obtain⟨hdr,hlt⟩:=Ji hx
  have hwx:=JE (w:=wCls) (List.mem_of_getElem? hx)
  have ek:decide ((k:Int)<(l.length:Int))=true:=J0 (by omega)
  repeat' first|refine Z1 ?_|refine Z2 ?_|refine Z3 ?_|refine Z5 ?_|refine Jy rfl rfl hlt rfl rfl rfl rfl ?_|refine J0g hx rfl rfl rfl rfl rfl rfl rfl rfl ?_|refine Zc (J7K x (by omega)) ?_|refine Zd ?_|refine Ze ?_|refine Zf ?_|refine Zo ?_|refine J6 ?_|refine Jf ?_|refine Zp ?_|refine J5 ?_|refine J8 ?_|refine J3 ?_|refine J4 ?_
  exact⟨k+1,hlt,by(try simp only);omega,Jl (Nat.le_of_ble_eq_true rfl) ⟨⟨rfl,rfl⟩,⟨rfl,rfl⟩,⟨rfl,rfl⟩,trivial⟩ ⟨⟨rfl,Je rfl,J0f _ _ _ _ rfl⟩,trivial⟩⟩
theorem J7B (l:List (Cls)) (hw:wL (wCls) l≤1048576):PFun X 35 [.d (.im (l.map eCls)),.d (.im (l.map eCls))] (vb true):=by
 have ht:(!true)=false:=rfl
 simp only[wL]at hw
 have e0:decide ((l.length:Int)≠(l.length:Int))=false:=J1 (fun h=>h rfl)
 refine Jn Tryz.func35 rfl (by decide) Tryz.ntmps35 Tryz.results35 (by simp) rfl rfl ?_
 repeat' first|refine Z1 ?_|refine Z2 ?_|refine Z5 ?_|refine Zd ?_|refine Zo ?_|refine J6 ?_|refine Zq ?_|refine J5 ?_|refine J8 ?_|refine J3 ?_
 refine Jq (ι:=Nat) (fun x=>envL [(0,.d (.im (l.map eCls))),(1,.d (.im (l.map eCls))),(4,vb false),(5,vi x)]) (fun x=>stL []) (fun x=>x≤l.length) (fun x=>l.length-x) 0 (Nat.zero_le _) (Jj rfl ⟨.refl _,.refl _,.refl _,.refl _,trivial⟩ trivial) (fun _=>Nat.le_refl 0) ?_
 intro k i1
 rcases hx:l[k]? with _|x
 ·have hle:=Jo hx
  have ek:decide ((k:Int)<(l.length:Int))=false:=J1 (by omega)
  repeat' first|refine Z1 ?_|refine Z2 ?_|refine Z5 ?_|refine Zd ?_|refine Zo ?_|refine J6 ?_|refine Zq ?_|refine Jh ?_|refine Jb ?_|refine J3 ?_|refine Ja ?_|refine Zv ?_|refine Zt ?_
  rfl
 ·obtain⟨hdr,hlt⟩:=Ji hx
  have hwx:=JE (w:=wCls) (List.mem_of_getElem? hx)
  have ek:decide ((k:Int)<(l.length:Int))=true:=J0 (by omega)
  repeat' first|refine Z1 ?_|refine Z2 ?_|refine Z5 ?_|refine Zd ?_|refine Zf ?_|refine Zw ?_|refine Zx ?_|refine Zz (Zc (J7X x (by omega)) ⟨rfl,rfl⟩) ?_|refine Zz (Ze ⟨rfl,rfl⟩) ?_|refine Zo ?_|refine J6 ?_|refine Jf ?_|refine Jx Jp (by decide +kernel) ?_|refine Zp ?_|refine Zq ?_|refine J5 ?_|refine J8 ?_|refine J3 ?_|refine J4 ?_
  exact⟨k+1,hlt,by(try simp only);omega,Jl (Nat.zero_le _) ⟨⟨rfl,rfl⟩,⟨rfl,rfl⟩,⟨rfl,rfl⟩,⟨rfl,rfl⟩,trivial⟩ trivial⟩
theorem J6q (l:List Cls) (hw:wL wCls l≤1048576):PFun X 9 [.agg [.d (.im (l.map eCls))]] (.agg [.d (.im (l.map eCls))]):=by
 refine Jn Tryz.func9 rfl (by decide) Tryz.ntmps9 Tryz.results9 (by simp) rfl rfl ?_
 repeat' first|refine Z1 ?_|refine Z2 ?_|refine Z5 ?_|refine Zc (J6X l hw) ?_|refine Zo ?_|refine Jb ?_|refine Zu ?_
 rfl
theorem J6J (l:List Cls) (hw:wL wCls l≤1048576):PFun X 13 [.agg [.d (.im (l.map eCls))],.agg [.d (.im (l.map eCls))]] (vb true):=by
 have ht:(!true)=false:=rfl
 refine Jn Tryz.func13 rfl (by decide) Tryz.ntmps13 Tryz.results13 (by simp) rfl rfl ?_
 repeat' first|refine Z1 ?_|refine Z2 ?_|refine Z5 ?_|refine Zc (J7B l hw) ?_|refine Zo ?_|refine J6 ?_|refine Zq ?_|refine J8 ?_|refine Jb ?_|refine J3 ?_|refine Zt ?_
 rfl
end Go.Pm
