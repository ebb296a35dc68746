/- Part of the proof: Shb. -/
import Derived.Test.YtdjanhhljinokaaGreatDoorT28
import Derived.Test.YtdjanhhljinokaaGreatDoorT21
import Derived.Test.YtdjanhhljinokaaGreatDoorT26
import Derived.Test.YtdjanhhljinokaaGreatDoorT27
import Derived.Test.YtdjanhhljinokaaGreatDoorT11
set_option linter.unusedVariables false
set_option linter.unusedSimpArgs false
namespace Go.Pm
attribute [local irreducible] AR Ok inBlock andThen endQ aoper
set_option maxHeartbeats 8000000
open Go.Proofs
theorem wnum (l:List Int):wL wNum0 l=l.length:=by unfold wL;rw[J3u];rfl
abbrev cM (l:List Cls) (u:Value):Sh×D×Value:=(.im 53 shCls,.im (l.map eCls),u)
theorem Tr.front {τ:FH} (A B:List (Sh×D×Value)) {x:Sh×D×Value} (t:Tr τ (A++x::B)):Tr τ (x::(A++B)):=t.perm List.perm_middle
theorem Ja8 (cs:List Cls) (n:Int) (S I:List Int) (hw:wL wCls cs≤1048576) (hSl:S.length≤1048576):(stepR cs n S I).1.length≤1048576∧(stepR cs n S I).2.1.length≤1048576:=by
 cases hB:stepB cs n S I with
 |false=>rw[J14 hB];exact⟨Nat.zero_le _,Nat.zero_le _⟩
 |true=>
  have hR:stepR cs n S I=stepF cs (cellsS cs) (n.toNat+1) n.toNat S I:=by unfold stepR;rw[if_pos hB]
  rw[hR]
  unfold stepB at hB
  rw[Bool.and_eq_true,Bool.and_eq_true,Bool.and_eq_true,Bool.and_eq_true]at hB
  obtain⟨h1,h2,h3,a1,a2⟩:=hB
  obtain⟨hm,k,rfl,hk⟩:=J5H h1
  rw[Int.toNat_natCast]at h2 h3 ⊢
  obtain⟨c,hx⟩:∃c,cs[k]? = some c:=⟨cs[k],List.getElem?_eq_getElem hk⟩
  have hG:=J6v hw hm
  obtain⟨z,hK⟩:=hG k c hx
  have hz:=hK.hz
  have e2:S.length=z:=by have:=of_decide_eq_true h2;rw[J8k hz]at this;omega
  have e3:I.length=c.ins.length:=by have:=of_decide_eq_true h3;rw[hx]at this;exact this
  have hds:(cs.take (k+1))[k]? = some c:=by rw[List.getElem?_take,if_pos (by omega)];exact hx
  obtain⟨p1,p2,p3,p4⟩:=J1t hG (k+1) k c z S I hds hz e2 e3 (J1N a1) (J1N a2)
  have:=hK.lo
  exact⟨by omega,by omega⟩
theorem J9l (cs:List Cls) (n:Int) (S I:List Int) (hw:wL wCls cs≤1048576) (hSl:S.length≤1048576) (hIl:I.length≤1048576) {args:List AV} {σ:St} {i:Nat} {τ:FH} {l:List (Sh×D×Value)}
  (ha:LnL σ args [.agg [.d (.im (cs.map eCls))],vi n,.d (.im (S.map eNum)),.d (.im (I.map eNum))]) (hi:σ.obj i=some (.box τ)) (hT:Tr τ l):
  AFun X 11 args σ fun A σ'=>∃u1 u2 τ2,A=.ret (.tup [.d (.s u1),.d (.s u2),vi (stepR cs n S I).2.2])∧σ'=σ.set i (.box τ2)∧Tr τ2 (sI (stepR cs n S I).1 u1::sI (stepR cs n S I).2.1 u2::l):=by
 have h:=JbC cs n S I hw hSl hIl fun hm c z _ _=>by have:=J7E hm (n.toNat+1) n.toNat S I;omega
 generalize stepR cs n S I=R at h
 refine(BFun.lend h (fun r L'=>∃u1 u2,r=.tup [.d (.s u1),.d (.s u2),vi R.2.2]∧L'=[sI R.1 u1,sI R.2.1 u2]) ?_ ha hi hT).mono ?_
 ·rintro E τ' ⟨u1,u2,rfl,t⟩
  exact⟨_,_,rfl,JaY ⟨.d _,.d _,.d _,trivial⟩,t,u1,u2,rfl,rfl⟩
 ·rintro E σ' ⟨r,L',τ2,rfl,⟨u1,u2,rfl,rfl⟩,rfl,t⟩
  exact⟨u1,u2,τ2,rfl,rfl,t⟩
theorem Ja9 (cs:List Cls) (n:Int) (S I:List Int) (hd:dL dCls cs):PFun X 3 [.agg [.d (.im (cs.map eCls))],vi n,.d (.im (S.map eNum)),.d (.im (I.map eNum))] (vb true):=by
 have ht:(!true)=false:=rfl
 refine Jn Tryz.func3 rfl (by decide) Tryz.ntmps3 Tryz.results3 (by simp) rfl rfl ?_
 by_cases hS:(1048576:Int)<(S.length:Int)
 ·have e1:decide ((1048576:Int)<(S.length:Int))=true:=J0 hS
  repeat' first|refine Z1 ?_|refine Z2 ?_|refine Z5 ?_|refine Zd ?_|refine Zo ?_|refine J6 ?_|refine Zp ?_|refine Jb ?_|refine J7 ?_|refine Zt ?_
  rfl
 have e1:decide ((1048576:Int)<(S.length:Int))=false:=J1 hS
 by_cases hI:(1048576:Int)<(I.length:Int)
 ·have e2:decide ((1048576:Int)<(I.length:Int))=true:=J0 hI
  repeat' first|refine Z1 ?_|refine Z2 ?_|refine Z5 ?_|refine Zd ?_|refine Zo ?_|refine J6 ?_|refine Zp ?_|refine Zq ?_|refine J8 ?_|refine Jb ?_|refine J3 ?_|refine J7 ?_|refine Zt ?_
  rfl
 have e2:decide ((1048576:Int)<(I.length:Int))=false:=J1 hI
 by_cases hn:subI 1048576 (wL wCls cs)<0
 ·have e3:decide (subI 1048576 (wL wCls cs)<0)=true:=J0 hn
  repeat' first|refine Z1 ?_|refine Z2 ?_|refine Z5 ?_|refine Zc (J36 cs 1048576 (by omega) (by omega) hd) ?_|refine Zd ?_|refine Zo ?_|refine J6 ?_|refine Zp ?_|refine Zq ?_|refine J8 ?_|refine Jb ?_|refine J3 ?_|refine J7 ?_|refine Zt ?_
  rfl
 have e3:decide (subI 1048576 (wL wCls cs)<0)=false:=J1 hn
 obtain⟨h1,h2⟩:=J02 hn (by omega)
 have hw:wL wCls cs≤1048576:=by omega
 have hSl:S.length≤1048576:=by omega
 have hIl:I.length≤1048576:=by omega
 obtain⟨hle1,hle2⟩:=Ja8 cs n S I hw hSl
 have hs:=JaS cs n S I hw hSl hIl
 have hg:=fun {args:List AV} {σ:St} {i:Nat} {τ:FH} {l:List (Sh×D×Value)}=>J9l cs n S I hw hSl hIl (args:=args) (σ:=σ) (i:=i) (τ:=τ) (l:=l)
 generalize stepR cs n S I=R at hle1 hle2 hs hg
 obtain⟨R0,R1,R2⟩:=R
 simp only[resT]at hle1 hle2 hs hg
 have wS:wL wNum0 S≤1048576:=by rw[wnum];omega
 have wI:wL wNum0 I≤1048576:=by rw[wnum];omega
 have w0:wL wNum0 R0≤1048576:=by rw[wnum];omega
 have w1:wL wNum0 R1≤1048576:=by rw[wnum];omega
 have c1:=cntL cntCl cs 1
 obtain⟨k1,hk1⟩:∃k,k=(mkL mkCls cs 1).2:=⟨_,rfl⟩
 rw[←hk1]at c1
 have c2:=cntL cntN S k1
 obtain⟨k2,hk2⟩:∃k,k=(mkL mkNum S k1).2:=⟨_,rfl⟩
 rw[←hk2]at c2
 have c3:=cntL cntN I k2
 obtain⟨k3,hk3⟩:∃k,k=(mkL mkNum I k2).2:=⟨_,rfl⟩
 rw[←hk3]at c3
 have c4:=cntL cntN R0 1
 obtain⟨m1,hm1⟩:∃k,k=(mkL mkNum R0 1).2:=⟨_,rfl⟩
 rw[←hm1]at c4
 have c5:=cntL cntN R1 m1
 obtain⟨m2,hm2⟩:∃k,k=(mkL mkNum R1 m1).2:=⟨_,rfl⟩
 rw[←hm2]at c5
 have d1:decide (k3<0)=false:=J1 (by omega)
 have d2:decide (m1<0)=false:=J1 (by omega)
 have d3:decide (m2<0)=false:=J1 (by omega)
 have d4:decide (m2≠m2)=false:=J1 (fun h=>h rfl)
 have d5:decide (R2≠R2)=false:=J1 (fun h=>h rfl)
 have mkM:=fun {u:Value} {τ:FH} {L:List (Sh×D×Value)} (t:Tr τ (cM cs u::L))=>J52 cs 1 (by decide) (by omega) t
 have mk2:=fun {u:Value} {τ:FH} {L:List (Sh×D×Value)} (t:Tr τ (sI S u::L))=>J0r S k1 (by omega) (by omega) t
 have mk3:=fun {u:Value} {τ:FH} {L:List (Sh×D×Value)} (t:Tr τ (sI I u::L))=>J0r I k2 (by omega) (by omega) t
 have mk4:=fun {u:Value} {τ:FH} {L:List (Sh×D×Value)} (t:Tr τ (sI R0 u::L))=>J0r R0 1 (by decide) (by omega) t
 have mk5:=fun {u:Value} {τ:FH} {L:List (Sh×D×Value)} (t:Tr τ (sI R1 u::L))=>J0r R1 m1 (by omega) (by omega) t
 have hl4:=J3P R0 1 (by decide) (by omega)
 have hl5:=J3P R1 m1 (by omega) (by omega)
 rw[←hk1]at mkM
 rw[←hk2]at mk2
 rw[←hk3]at mk3
 rw[←hm1]at mk4 hl4
 rw[←hm2]at mk5 hl5
 have eqI (l:List Int) (hw:wL wNum0 l≤1048576) {σ:St} {τ:FH} {L:List (Sh×D×Value)} (h:σ.obj 1=some (.box τ)) (t:Tr τ L) {x:Value} (m:sI l x∈L):=(J3s l hw).lendB (σ:=σ) (args:=[.d (.s x),.d (.im (l.map eNum))]) ⟨.box h t m,J57 _ _,trivial⟩
 have eqM {σ:St} {τ:FH} {L:List (Sh×D×Value)} (h:σ.obj 1=some (.box τ)) (t:Tr τ L) {x:Value} (m:cM cs x∈L):=(J6J cs hw).lendB (σ:=σ) (args:=[.agg [.d (.s x)],.agg [.d (.im (cs.map eCls))]]) ⟨J4b (.box h t m),J4b (J57 _ _),trivial⟩
 have hd4 {σ:St} {τ:FH} {L:List (Sh×D×Value)} (h:σ.obj 1=some (.box τ)) (t:Tr τ L) {x:Value} (m:sI (mkL mkNum R0 1).1 x∈L):=hl4.lendB (σ:=σ) (args:=[.d (.s x),vi 1]) ⟨.box h t m,J57 _ _,trivial⟩
 have hd5 {σ:St} {τ:FH} {L:List (Sh×D×Value)} (h:σ.obj 1=some (.box τ)) (t:Tr τ L) {x:Value} (m:sI (mkL mkNum R1 m1).1 x∈L):=hl5.lendB (σ:=σ) (args:=[.d (.s x),vi m1]) ⟨.box h t m,J57 _ _,trivial⟩
 have lnI (l:List Int) {σ:St} {τ:FH} {L:List (Sh×D×Value)} (h:σ.obj 1=some (.box τ)) (t:Tr τ L) {x:Value} (m:sI l x∈L):Ln σ (.d (.s x)) (.d (.im (l.map eNum))):=.box h t m
 have lnM {σ:St} {τ:FH} {L:List (Sh×D×Value)} (h:σ.obj 1=some (.box τ)) (t:Tr τ L) {x:Value} (m:cM cs x∈L):Ln σ (.agg [.d (.s x)]) (.agg [.d (.im (cs.map eCls))]):=J4b (.box h t m)
 have tM:=J6q cs hw
 have tS:=J2f S wS
 have tI:=J2f I wI
 repeat' first|refine Z1 ?_|refine Z2 ?_|refine Z5 ?_|refine Zc (J36 cs 1048576 (by omega) (by omega) hd) ?_|refine Zd ?_|refine Zo ?_|refine J6 ?_|refine Zq ?_|refine J8 ?_|refine J3 ?_
 refine Zc tM ?_
 repeat' first|refine Z1 ?_|refine Z2 ?_|refine Z5 ?_|refine Zc (tS) ?_|refine Zc (tI) ?_|refine Zc (hs) ?_|refine Zo ?_
 refine Yxx ((J5u cs hw (τ:=FH.non) Tr.nil).new _) ?_
 rintro A σ2 ⟨τ1,⟨u,rfl,t1⟩,rfl⟩
 obtain⟨ua,un,uc,rfl⟩:=t1.sl
 refine⟨_,rfl,?_⟩
 repeat' first|refine Z1 ?_|refine Z2 ?_|refine Z5 ?_|refine Yxx ((J1F S wS t1).at (i:=1) rfl) ?_|refine Zo ?_
 rintro A σ2 ⟨τ2,⟨u,rfl,t2⟩,rfl⟩
 obtain⟨va,vn,vc,rfl⟩:=t2.sl
 refine⟨_,rfl,?_⟩
 repeat' first|refine Z1 ?_|refine Z2 ?_|refine Z5 ?_|refine Yxx ((J1F I wI t2).at (i:=1) rfl) ?_|refine Zo ?_
 rintro A σ2 ⟨τ3,⟨u,rfl,t3⟩,rfl⟩
 obtain⟨xa,xn,xc,rfl⟩:=t3.sl
 refine⟨_,rfl,?_⟩
 repeat' first|refine Z1 ?_|refine Z2 ?_|refine Z5 ?_|refine Yxx (hg (args:=[.agg [.d (.s (.slice ua un uc))],vi n,.d (.s (.slice va vn vc)),.d (.s (.slice xa xn xc))]) ⟨lnM rfl t3 (by simp),J57 _ _,lnI S rfl t3 (by simp),lnI I rfl t3 (by simp),trivial⟩ (i:=1) rfl t3) ?_|refine Zo ?_
 rintro A σ2 ⟨u1,u2,τ4,rfl,rfl,t4⟩
 obtain⟨ga,gn,gc,rfl⟩:=t4.sl
 obtain⟨ha,hn',hc,rfl⟩:=(Tr.front [_] _ t4).sl
 refine⟨_,rfl,?_⟩
 repeat' first|refine Z1 ?_|refine Z2 ?_|refine Z5 ?_|refine Z7 ?_|refine Zc (tS) ?_|refine Zc (tI) ?_|refine Ym (eqI R0 w0 rfl t4 (x:=.slice ga gn gc) (by simp)) ?_|refine Ym (eqI R1 w1 rfl t4 (x:=.slice ha hn' hc) (by simp)) ?_|refine Ym (eqI S wS rfl t4 (x:=.slice va vn vc) (by simp)) ?_|refine Ym (eqI I wI rfl t4 (x:=.slice xa xn xc) (by simp)) ?_|refine Zh ?_|refine Zi ?_|refine Zw ?_|refine Zx ?_|refine Zz (Zc (tM) ⟨rfl,rfl⟩) ?_|refine Zz (Ym (eqM rfl t4 (x:=.slice ua un uc) (by simp)) ⟨rfl,rfl⟩) ?_|refine Zo ?_|refine J6 ?_|refine Jx Jp (by decide +kernel) ?_|refine Zq ?_|refine J8 ?_|refine J3 ?_
 refine Yxx ((mkM (Tr.front [_,_,_,_] _ t4)).at (i:=1) rfl) ?_
 rintro A σ2 ⟨τ5,⟨rfl,t5⟩,rfl⟩
 refine⟨_,rfl,?_⟩
 repeat' first|refine Z1 ?_|refine Z2 ?_|refine Z5 ?_|refine Yxx ((mk2 (Tr.front [_,_,_,_] _ t5)).at (i:=1) rfl) ?_|refine Zo ?_
 rintro A σ2 ⟨τ6,⟨rfl,t6⟩,rfl⟩
 refine⟨_,rfl,?_⟩
 repeat' first|refine Z1 ?_|refine Z2 ?_|refine Z5 ?_|refine Yxx ((mk3 (Tr.front [_,_,_,_] _ t6)).at (i:=1) rfl) ?_|refine Zo ?_
 rintro A σ2 ⟨τ7,⟨rfl,t7⟩,rfl⟩
 refine⟨_,rfl,?_⟩
 repeat' first|refine Z1 ?_|refine Z2 ?_|refine Z5 ?_|refine Z7 ?_|refine Ym (eqI R0 w0 rfl t7 (x:=.slice ga gn gc) (by simp)) ?_|refine Ym (eqI R1 w1 rfl t7 (x:=.slice ha hn' hc) (by simp)) ?_|refine Yxx ((mk4 (Tr.front [_,_,_] _ t7)).at (i:=1) rfl) ?_|refine Zh ?_|refine Zi ?_|refine Zm ?_|refine Zo ?_|refine J6 ?_|refine Zq ?_|refine J8 ?_|refine J3 ?_
 rintro A σ2 ⟨τ8,⟨rfl,t8⟩,rfl⟩
 refine⟨_,rfl,?_⟩
 repeat' first|refine Z1 ?_|refine Z2 ?_|refine Z5 ?_|refine Yxx ((mk5 (Tr.front [_,_,_,_] _ t8)).at (i:=1) rfl) ?_|refine Zo ?_
 rintro A σ2 ⟨τ9,⟨rfl,t9⟩,rfl⟩
 refine⟨_,rfl,?_⟩
 repeat' first|refine Z1 ?_|refine Z2 ?_|refine Z5 ?_|refine Ym (hd4 rfl t9 (x:=.slice ga gn gc) (by simp)) ?_|refine Ym (hd5 rfl t9 (x:=.slice ha hn' hc) (by simp)) ?_|refine Zc (tM) ?_|refine Zc (tS) ?_|refine Zc (tI) ?_|refine Yxx (hg (args:=[.agg [.d (.im (cs.map eCls))],vi n,.d (.im (S.map eNum)),.d (.im (I.map eNum))]) ⟨J4b (J57 _ _),J57 _ _,J57 _ _,J57 _ _,trivial⟩ (i:=1) rfl t9) ?_|refine Zo ?_|refine J6 ?_|refine Zq ?_|refine J8 ?_|refine J3 ?_
 rintro A σ2 ⟨u1,u2,τa,rfl,rfl,ta⟩
 obtain⟨pa,pn,pc,rfl⟩:=ta.sl
 obtain⟨qa,qn,qc,rfl⟩:=(Tr.front [_] _ ta).sl
 refine⟨_,rfl,?_⟩
 repeat' first|refine Z1 ?_|refine Z2 ?_|refine Z5 ?_|refine Z7 ?_|refine Ym (eqI R0 w0 rfl ta (x:=.slice pa pn pc) (by simp)) ?_|refine Ym (eqI R1 w1 rfl ta (x:=.slice qa qn qc) (by simp)) ?_|refine Ym (hd4 rfl ta (x:=.slice ga gn gc) (by simp)) ?_|refine Ym (hd5 rfl ta (x:=.slice ha hn' hc) (by simp)) ?_|refine Zh ?_|refine Zi ?_|refine Zo ?_|refine J6 ?_|refine Zq ?_|refine J8 ?_|refine Jb ?_|refine J3 ?_|refine Zt ?_
 rfl
end Go.Pm
