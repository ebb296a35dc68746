/- Part of the proof: Pm50. -/
import Derived.Test.YtdjanhhljinokaaGreatDoorT10
import Derived.Test.YtdjanhhljinokaaGreatDoorT9
import Derived.Test.YtdjanhhljinokaaGreatDoorT6
import Derived.Lib.ItoaLen
import Derived.Lib.ItoaMem
import Derived.Test.YtdjanhhljinokaaGreatDoorT8
set_option linter.unusedVariables false
set_option linter.unusedSimpArgs false
namespace Go.Pm
attribute [local irreducible] AR Ok inBlock andThen endQ aoper
theorem Jbe {α:Type} (e:α→List D) (l:List α) (k:Nat) (y:α):(im2 e l).set k ((e y).map .d)=im2 e (l.set k y):=by
 simp only[im2,List.map_set]
section
variable {X:Cfg} {nt:Nat} {Q:Exit→Env→St→Prop} {K:AV→St→Prop} {env:Env} {σ:St}
theorem J4t {α:Type} {e:α→List D} {l:List α} {k t i v el sz:Nat} {y:α} {ti:TI} {p x:Operand} (hk:k<l.length) (hsz:∀z,(e z).length=ti.size) (h1:((e y).map AV.d).all AV.one=true) (hp:aev X env p=.ep i v k 0) (ht:X.T t=some ti) (hx:(aev X env x).cells=some ((e y).map .d))
  (ho:σ.obj i=some (.row v el sz (im2 e l))) (hK:K (.d (.s undef)) (σ.set i (.row v el sz (im2 e (l.set k y))))):aoper X (.store t p x) env σ Q K:=by
 simp only[aoper,aop,astore]
 refine⟨ti,ht,_,hx,by rw[List.length_map];exact hsz y,h1,?_⟩
 simp only[hp]
 have hr:(im2 e l)[k]? = some ((e l[k]).map .d):=J0b (List.getElem?_eq_getElem hk)
 refine⟨el,sz,_,ho,_,hr,by rw[List.length_map,hsz];omega,?_⟩
 have e1:splice ((e l[k]).map AV.d) 0 ((e y).map .d)=(e y).map .d:=by
  simp[splice,hsz]
 rw[e1,Jbe]
 exact hK
end
end Go.Pm
/- Part of the proof: Pm51. -/
namespace Go.Pm
attribute [local irreducible] AR Ok inBlock andThen endQ aoper
def nmb (L:List Nat) (j:Nat):Nat:=L.getD j 0
def idx:List Nat→List (Option AO)→Nat→Nat→Option Nat
 |a::L,some _::O,k,i=>if i=a then some k else idx L O (k+1) i
 |_::L,none::O,k,i=>idx L O (k+1) i
 |_,_,_,_=>none
theorem J5f:∀{L:List Nat} {O:List (Option AO)} {k i j:Nat},idx L O k i=some j→∃d o,j=k+d∧L[d]? = some i∧(O[d]?).join=some o
 |a::L,some x::O,k,i,j,h=>by
  simp only[idx]at h
  split at h
  ·rename_i e
   subst e
   exact⟨0,x,by simpa using h.symm,rfl,rfl⟩
  ·obtain⟨d,o,h1,h2,h3⟩:=J5f h
   exact⟨d+1,o,by omega,by simpa using h2,by simpa using h3⟩
 |a::L,none::O,k,i,j,h=>by
  simp only[idx]at h
  obtain⟨d,o,h1,h2,h3⟩:=J5f h
  exact⟨d+1,o,by omega,by simpa using h2,by simpa using h3⟩
 |[],_,_,_,_,h=>by simp[idx]at h
 |_::_,[],_,_,_,h=>by simp[idx]at h
def dist:List Nat→List (Option AO)→Prop
 |a::L,some _::O=>(∀(d:Nat) (o:AO),L[d]? = some a→(O[d]?).join=some o→False)∧dist L O
 |_::L,none::O=>dist L O
 |_,_=>True
theorem J7V:∀{L:List Nat} {O:List (Option AO)} {k i d:Nat} {o:AO},dist L O→L[d]? = some i→(O[d]?).join=some o→idx L O k i=some (k+d)
 |a::L,some x::O,k,i,0,o,hd,h1,h2=>by
  have h1:a=i:=by simpa using h1
  simp only[idx];rw[if_pos h1.symm];rfl
 |a::L,some x::O,k,i,d+1,o,hd,h1,h2=>by
  have h1':L[d]? = some i:=by simpa using h1
  have h2':(O[d]?).join=some o:=by simpa using h2
  simp only[idx]
  have hd':(∀(d:Nat) (o:AO),L[d]? = some a→(O[d]?).join=some o→False)∧dist L O:=hd
  rw[if_neg (fun e=>by subst e;exact hd'.1 d o h1' h2'),J7V hd'.2 h1' h2']
  congr 1;omega
 |a::L,none::O,k,i,0,o,hd,h1,h2=>by simp at h2
 |a::L,none::O,k,i,d+1,o,hd,h1,h2=>by
  simp only[idx]
  have hd':dist L O:=hd
  rw[J7V (L:=L) (O:=O) (k:=k+1) (i:=i) (d:=d) (o:=o) hd' (by simpa using h1) (by simpa using h2)]
  congr 1;omega
 |[],_,_,_,d,_,_,h1,_=>by simp at h1
 |_::_,[],_,_,d,_,_,_,h2=>by simp at h2
def embSt (L:List Nat) (O O2:List (Option AO)) (σ:St):St:=mrg (stL O) σ (nmb L) (idx L O 0) (stL O2)
theorem AFun.emb {X:Cfg} {f:FuncId} {args:List AV} {r:AV} {O O2:List (Option AO)} (h:AFun X f args (stL O) fun E σ'=>E=.ret r∧σ'=stL O2) (L:List Nat) (hL:L.length=O.length) (hd:dist L O) {σ:St} (hlt:∀j,j<O.length→nmb L j<σ.next)
  (hob:∀(j:Nat) (o:AO),(O[j]?).join=some o→σ.obj (nmb L j)=some (renO (nmb L) o)∧o.low O.length) (ha:lows O.length args=true):
  AFun X f (rens (nmb L) args) σ fun E σ'=>E=.ret (ren (ext O.length σ.next (nmb L)) r)∧σ'=embSt L O O2 σ:=by
 have hin:∀(j:Nat) (o:AO),(O[j]?).join=some o→j<O.length:=fun j o ho=>by
  rcases Nat.lt_or_ge j O.length with h|h
  ·exact h
  ·rw[List.getElem?_eq_none h]at ho;cases ho
 have hnm:∀j,j<O.length→L[j]? = some (nmb L j):=fun j hj=>by
  unfold nmb
  rw[List.getD_eq_getElem?_getD,List.getElem?_eq_getElem (by omega)];rfl
 refine(AFun.frame h (nmb L) (idx L O 0) hlt (fun j o ho=>hin j o ho) (fun j o ho=>hob j o ho) (fun j o ho=>?_) (fun i j hij=>?_) ha).mono ?_
 ·have:=J7V (k:=0) hd (hnm j (hin j o ho)) ho
  simpa using this
 ·obtain⟨d,o,h1,h2,h3⟩:=J5f hij
  have hj:j=d:=by omega
  subst hj
  have hlt:=hin j o h3
  rw[hnm j hlt]at h2
  exact⟨Option.some.inj h2,hlt⟩
 ·rintro E σ' ⟨E0,σ1,⟨rfl,rfl⟩,rfl,rfl⟩
  exact⟨rfl,rfl⟩
end Go.Pm
/- Part of the proof: Pm52. -/
namespace Go.Pm
attribute [local irreducible] AR Ok inBlock andThen endQ aoper
def OpAtS (X:Cfg) (nt:Nat) (ops:Array Oper) (S:St→Prop) (o:Oper) (env:Env) (r:AV):Prop:=
 o.dst.all (·<nt)=true∧
 match o.guard with
 |none=>∀σ',S σ'→aoper X o.op env σ' (fun _ _ _=>False) fun v σ2=>σ2=σ'∧v=r
 |some (j,want)=>∃d,(ops[j]?).bind (·.dst)=some d∧d<nt∧
   ((env d=.d (.s (.bool want))∧∀σ',S σ'→aoper X o.op env σ' (fun _ _ _=>False) fun v σ2=>σ2=σ'∧v=r)∨(env d=.d (.s (.bool (!want)))∧r=.d (.s undef))∨(env d=.d (.s undef)∧r=.d (.s undef)))
inductive LRS (X:Cfg) (nt:Nat) (ops:Array Oper) (S:St→Prop) (es:List Nat):Nat→List Oper→Env→St→Env→St→Prop
 |nil (n:Nat) (E:Env) (σ:St):LRS X nt ops S es n [] E σ E σ
 |op {n:Nat} {o:Oper} {rest:List Oper} {env E:Env} {σ σ2:St} {r:AV} (hne:es.contains n=false) (h:OpAtS X nt ops S o env r) (k:LRS X nt ops S es (n+1) rest (put env o.dst r) σ E σ2):LRS X nt ops S es n (o::rest) env σ E σ2
 |eff {n:Nat} {o:Oper} {rest:List Oper} {env E:Env} {σ σ1 σ2:St} {r:AV} (he:es.contains n=true) (hd:o.dst.all (·<nt)=true) (hg:o.guard=none) (h:aoper X o.op env σ (fun _ _ _=>False) fun v σ'=>σ'=σ1∧v=r)
   (hT:rest=[]∨S σ1) (k:LRS X nt ops S es (n+1) rest (put env o.dst r) σ1 E σ2):LRS X nt ops S es n (o::rest) env σ E σ2
theorem LRS.facts {X:Cfg} {nt:Nat} {ops:Array Oper} {S:St→Prop} {es:List Nat}:∀{n:Nat} {l:List Oper} {env E:Env} {σ σF:St},LRS X nt ops S es n l env σ E σF→S σ→
  (∀(i j:Nat) (oi oj:Oper) (d:Nat),i≠j→l[i]? = some oi→l[j]? = some oj→oi.dst=some d→oj.dst≠some d)→
  (∀t,(∀o∈l,o.dst≠some t)→E t=env t)∧
  ∃sv:Nat→St,sv 0=σ∧sv l.length=σF∧(∀k,k<l.length→S (sv k))∧(∀k,k<l.length→es.contains (n+k)=false→sv (k+1)=sv k)∧
  ∀(k:Nat) (o:Oper),l[k]? = some o→∃e r,o.dst.all (·<nt)=true∧(es.contains (n+k)=false→OpAtS X nt ops S o e r)∧
   (es.contains (n+k)=true→o.guard=none∧aoper X o.op e (sv k) (fun _ _ _=>False) fun v σ'=>σ'=sv (k+1)∧v=r)∧
   (∀d,o.dst=some d→E d=r)∧(∀t,(∀(j:Nat) (oj:Oper),j<k→l[j]? = some oj→oj.dst≠some t)→e t=env t)∧(∀(j:Nat) (oj:Oper) (t:Nat),j<k→l[j]? = some oj→oj.dst=some t→e t=E t)
 |n,[],env,E,σ,σF,h,_,_=>by
  cases h
  exact⟨fun _ _=>rfl,fun _=>σ,rfl,rfl,fun k hk=>by simp at hk,fun k hk=>by simp at hk,fun k o h=>by simp at h⟩
 |n,o::rest,env,E,σ,σF,h,hS0,hd=>by
  -- the first operation gives r and the state σ1
  obtain⟨r,σ1,hdst,hop,heff,hT,hsame,hrun⟩:∃r σ1,o.dst.all (·<nt)=true∧(es.contains n=false→OpAtS X nt ops S o env r)∧(es.contains n=true→o.guard=none∧aoper X o.op env σ (fun _ _ _=>False) fun v σ'=>σ'=σ1∧v=r)∧
    (rest=[]∨S σ1)∧(es.contains n=false→σ1=σ)∧LRS X nt ops S es (n+1) rest (put env o.dst r) σ1 E σF:=by
   cases h with
   |op hne h k=>exact⟨_,σ,h.1,fun _=>h,(fun he=>by rw[hne]at he;cases he),.inr hS0,fun _=>rfl,k⟩
   |eff he hd hg h hT k=>exact⟨_,_,hd,(fun hne=>by rw[hne]at he;cases he),fun _=>⟨hg,h⟩,hT,(fun hne=>by rw[hne]at he;cases he),k⟩
  obtain⟨h1,sv,hs0,hsF,hsT,hsk,h2⟩:(∀t,(∀o∈rest,o.dst≠some t)→E t=put env o.dst r t)∧
  ∃sv:Nat→St,sv 0=σ1∧sv rest.length=σF∧(∀k,k<rest.length→S (sv k))∧(∀k,k<rest.length→es.contains (n+1+k)=false→sv (k+1)=sv k)∧
  ∀(k:Nat) (o':Oper),rest[k]? = some o'→∃e r',o'.dst.all (·<nt)=true∧(es.contains (n+1+k)=false→OpAtS X nt ops S o' e r')∧
   (es.contains (n+1+k)=true→o'.guard=none∧aoper X o'.op e (sv k) (fun _ _ _=>False) fun v σ'=>σ'=sv (k+1)∧v=r')∧
   (∀d,o'.dst=some d→E d=r')∧(∀t,(∀(j:Nat) (oj:Oper),j<k→rest[j]? = some oj→oj.dst≠some t)→e t=put env o.dst r t)∧(∀(j:Nat) (oj:Oper) (t:Nat),j<k→rest[j]? = some oj→oj.dst=some t→e t=E t):=by
   have hdr:∀(i j:Nat) (oi oj:Oper) (d:Nat),i≠j→rest[i]? = some oi→rest[j]? = some oj→oi.dst=some d→oj.dst≠some d:=fun i j oi oj d hij hi hj=>hd (i+1) (j+1) oi oj d (by omega) (by simpa using hi) (by simpa using hj)
   rcases hT with hT|hT
   ·subst hT
    cases hrun
    exact⟨fun _ _=>rfl,fun _=>_,rfl,rfl,fun k hk=>by simp at hk,fun k hk=>by simp at hk,fun k o h=>by simp at h⟩
   ·exact hrun.facts hT hdr
  have hfst:∀d,o.dst=some d→E d=r:=by
   intro d hod
   rw[h1 d fun o' ho'=>?_]
   ·simp[put,hod]
   ·obtain⟨j,hj⟩:=List.getElem?_of_mem ho'
    exact hd 0 (j+1) o o' d (by omega) (by simp) (by simpa using hj) hod
  have hput:∀t,o.dst≠some t→put env o.dst r t=env t:=by
   intro t ht
   cases hod:o.dst with
   |none=>rfl
   |some d=>simp only[put];rw[if_neg (by intro e;subst e;exact ht hod)]
  refine⟨fun t ht=>?_,fun k=>match k with|0=>σ|k+1=>sv k,rfl,by simpa using hsF,fun k hk=>?_,fun k hk hne=>?_,fun k' o' hk'=>?_⟩
  ·rw[h1 t fun o' ho'=>ht o' (by simp[ho'])]
   exact hput t (ht o (by simp))
  ·cases k with
   |zero=>exact hS0
   |succ k=>exact hsT k (by simpa using hk)
  ·cases k with
   |zero=>show sv 0=σ;rw[hs0];exact hsame (by simpa using hne)
   |succ k=>exact hsk k (by simpa using hk) (by rw[show n+1+k=n+(k+1) by omega];exact hne)
  ·cases k' with
   |zero=>
    simp only[List.getElem?_cons_zero,Option.some.injEq]at hk'
    subst hk'
    exact⟨env,r,hdst,fun hne=>hop (by simpa using hne),fun he=>by
     obtain⟨hg,ha⟩:=heff (by simpa using he)
     refine⟨hg,?_⟩
     show aoper X o.op env σ _ fun v σ'=>σ'=sv 0∧v=r
     rw[hs0];exact ha,hfst,fun _ _=>rfl,fun j oj t hj=>by omega⟩
   |succ k'=>
    obtain⟨e,r',a0,a1,a1',a2,a3,a4⟩:=h2 k' o' (by simpa using hk')
    refine⟨e,r',a0,fun hne=>a1 (by rw[show n+1+k'=n+(k'+1) by omega];exact hne),fun he=>a1' (by rw[show n+1+k'=n+(k'+1) by omega];exact he),a2,fun t ht=>?_,fun j oj t hj hoj hot=>?_⟩
    ·rw[a3 t fun j oj hj hoj=>ht (j+1) oj (by omega) (by simpa using hoj)]
     exact hput t (ht 0 o (by omega) (by simp))
    ·cases j with
     |zero=>
      simp only[List.getElem?_cons_zero,Option.some.injEq]at hoj
      subst hoj
      have hno:∀o''∈rest,o''.dst≠some t:=fun o'' ho''=>by
       obtain⟨j,hj⟩:=List.getElem?_of_mem ho''
       exact hd 0 (j+1) o o'' t (by omega) (by simp) (by simpa using hj) hot
      rw[a3 t (fun j oj _ hoj=>hno oj (List.mem_of_getElem? hoj)),h1 t hno]
     |succ j=>exact a4 j oj t (by omega) (by simpa using hoj) hot
def ADS (X:Cfg) (nt:Nat) (ops:Array Oper) (S:St→Prop) (es:List Nat) (Q:Exit→Env→St→Prop) (n:Nat) (rest:List Oper) (env:Env) (σ:St):Prop:=∃E σF,LRS X nt ops S es n rest env σ E σF∧Q .normal E σF
theorem JaD {X:Cfg} {nt id:Nat} {ops:Array Oper} {Q:Exit→Env→St→Prop} {env:Env} {σ:St} (S:St→Prop) (es:List Nat) (hm:X.P.follows .mixedOrders=true) (hc:drawOkE ops es=true) (h0S:S σ) (h:ADS X nt ops S es Q 0 ops.toList env σ):
  Ok X nt (.region id ops true) Q env σ:=by
 unfold Ok
 intro F0 η0 a0 w0 hg0 hr0
 obtain⟨E,σF,hlr,hQ⟩:=h
 obtain⟨hbase,sv,hsv0,hsvF,hsvT,hsvk,hfacts⟩:=hlr.facts h0S fun i j oi oj d hij hi hj hdi hdj=>by
  simp only[Array.getElem?_toList]at hi hj
  exact((JN hc hi).2.2 j oj d hj hdj).1 (Ne.symm hij) hdi
 refine wp_region_any hm ?_
 have hsvle:∀a b,a≤b→b≤ops.size→(∀q,a≤q→q<b→es.contains q=false)→sv b=sv a:=by
  intro a b hab
  induction b with
  |zero=>
   intro _ _;have:a=0:=by omega
   subst this;rfl
  |succ b ih=>
   intro hb hno
   by_cases hab':a=b+1
   ·subst hab';rfl
   ·rw[hsvk b (by simp;omega) (by simpa using hno b (by omega) (by omega)),ih (by omega) (by omega) (fun q h1 h2=>hno q h1 (by omega))]
 have key:∀(fuel:Nat) (listed:Array Bool) (cur:Env) (F:FH) (η:Et) (a:Act) (w:World),listed.size=ops.size→(fuel=0→∀i,i<ops.size→listed.getD i true=true)→
   (∀i,i<ops.size→listed.getD i true=false→True)→((List.range ops.size).filter (fun i=>!listed.getD i true)).length≤fuel→
   ∀m:Nat,m≤ops.size→(∀q,es.contains q=true→q<ops.size→(listed.getD q false=true↔q<m))→Step F0 η0 σ w0 F η (sv m) w→GRel X F→Rel F η nt cur (sv m) a w→
   (∀t,(∀i o,ops[i]? = some o→listed.getD i true=true→o.dst≠some t)→cur t=env t)→(∀i o,ops[i]? = some o→listed.getD i true=true→∀e∈o.after,Region.binds .any e=true→listed.getD e.on false=true)→(∀i o t,ops[i]? = some o→listed.getD i true=true→o.dst=some t→cur t=E t)→
   wpAny X.P .any ops (Post X nt F0 η0 σ w0 Q) fuel listed a w:=by
  intro fuel
  induction fuel with
  |zero=>
   intro listed cur F η a w hls h0 _ hlen m hmle hml hs hg hr hb hcl hl
   have hall:=h0 rfl
   have hE:cur=E:=by
    funext t
    by_cases ht:∀o∈ops.toList,o.dst≠some t
    ·rw[hb t (fun i o hi _=>ht o (by simpa using Array.mem_of_getElem? hi)),hbase t ht]
    ·have ⟨o,ho,hot⟩:∃o,o∈ops.toList∧o.dst=some t:=by
      apply Classical.byContradiction
      intro hno
      exact ht fun o ho hot=>hno ⟨o,ho,hot⟩
     obtain⟨i,hi⟩:=List.getElem?_of_mem ho
     simp only[Array.getElem?_toList]at hi
     exact hl i o t hi (hall i (Array.getElem?_eq_some_iff.1 hi).1) hot
   subst hE
   have hmF:sv m=σF:=by
    rw[←hsvF,Array.length_toList]
    refine(hsvle m ops.size hmle (Nat.le_refl _) fun q h1 h2=>?_).symm
    cases hqe:es.contains q with
    |false=>rfl
    |true=>
     have h3:=(hml q hqe h2).1 (by have:=hall q h2;simpa[Array.getD,show q<listed.size by omega]using this)
     omega
   rw[hmF]at hs hr
   refine⟨?_,⟨F,η,cur,σF,hs,hg,hr,hQ⟩⟩
   cases hrd:Region.ready .any ops listed with
   |nil=>rfl
   |cons i rest=>
    obtain⟨h1,h2,_⟩:=J0F (ops:=ops) (listed:=listed) (i:=i) (by rw[hrd];simp)
    rw[hall i h1]at h2;cases h2
  |succ fuel ih=>
   intro listed cur F η a w hls h0 _ hlen m hmle hml hs hg hr hb hcl hl
   refine⟨fun hnil=>?_,fun i hi=>?_⟩
   ·have hall:=J5j hc hls hnil
    have hE:cur=E:=by
     funext t
     by_cases ht:∀o∈ops.toList,o.dst≠some t
     ·rw[hb t (fun i o hi _=>ht o (by simpa using Array.mem_of_getElem? hi)),hbase t ht]
     ·have ⟨o,ho,hot⟩:∃o,o∈ops.toList∧o.dst=some t:=by
       apply Classical.byContradiction
       intro hno
       exact ht fun o ho hot=>hno ⟨o,ho,hot⟩
      obtain⟨i,hi⟩:=List.getElem?_of_mem ho
      simp only[Array.getElem?_toList]at hi
      exact hl i o t hi (hall i (Array.getElem?_eq_some_iff.1 hi).1) hot
    subst hE
    have hmF:sv m=σF:=by
     rw[←hsvF,Array.length_toList]
     refine(hsvle m ops.size hmle (Nat.le_refl _) fun q h1 h2=>?_).symm
     cases hqe:es.contains q with
     |false=>rfl
     |true=>
      have h3:=(hml q hqe h2).1 (by have:=hall q h2;simpa[Array.getD,show q<listed.size by omega]using this)
      omega
    rw[hmF]at hs hr
    exact⟨F,η,cur,σF,hs,hg,hr,hQ⟩
   ·obtain⟨hin,hun,o,ho,hdep⟩:=J0F hi
    obtain⟨hpl,hbef,hlook⟩:=JN hc ho
    obtain⟨e,r,hdst,hatp,hate,hEr,hebase,hedone⟩:=hfacts i o (by simpa using ho)
    rw[Nat.zero_add]at hatp hate
    have hlooks:∀t∈o.looksAt ops,e t=cur t:=by
     intro t ht
     by_cases hw:∀o∈ops.toList,o.dst≠some t
     ·rw[hebase t (fun j oj _ hoj=>hw oj (List.mem_of_getElem? hoj)),hb t (fun i o hi _=>hw o (by simpa using Array.mem_of_getElem? hi))]
     ·have ⟨oj,hoj,hot⟩:∃o,o∈ops.toList∧o.dst=some t:=by
       apply Classical.byContradiction
       intro hno
       exact hw fun o ho hot=>hno ⟨o,ho,hot⟩
      obtain⟨j,hj⟩:=List.getElem?_of_mem hoj
      simp only[Array.getElem?_toList]at hj
      rcases(hlook j oj t hj hot).2 ht with⟨ed,hed,hbd,hon⟩|⟨ed,hed,hbd,hon⟩
      ·have hlt:=hbef ed hed hbd
       have hjl:=hdep ed hed hbd
       rw[hon]at hlt hjl
       rw[hedone j oj t hlt (by simpa using hj) hot]
       refine(hl j oj t hj ?_ hot).symm
       have hjs:j<listed.size:=by rw[hls];exact(Array.getElem?_eq_some_iff.1 hj).1
       simpa[Array.getD,hjs]using hjl
      ·have hlt:=(JN hc hj).2.1 ed hed hbd
       rw[hon]at hlt
       have hone:∀(j':Nat) (oj':Oper),ops[j']? = some oj'→oj'.dst=some t→j'=j:=fun j' oj' hj' hot'=>
        Classical.byContradiction fun hne=>((JN hc hj').2.2 j oj t hj hot).1 (Ne.symm hne) hot'
       have hju:¬listed.getD j true=true:=fun hjl=>by
        have h6:=hcl j oj hj hjl ed hed hbd
        rw[hon]at h6
        have hil:i<listed.size:=by omega
        simp only[Array.getD,hil,dif_pos]at h6 hun
        rw[h6]at hun;cases hun
       rw[hebase t (fun j' oj' hj'k hoj' hot'=>by have:=hone j' oj' (by simpa using hoj') hot';omega),hb t (fun j' oj' hoj' hjl hot'=>by have:=hone j' oj' hoj' hot';subst this;exact hju hjl)]
    have hops:∀x∈o.op.operands.toList,aev X e x=aev X cur x:=by
     intro x hx
     refine J3C fun t ht=>hlooks t ?_
     subst ht
     simp only[Oper.looksAt,List.mem_append,List.mem_filterMap]
     exact .inl ⟨_,hx,rfl⟩
    have hset0:∀k,(listed.setIfInBounds i true).getD k false=if k=i then true else listed.getD k false:=by
     intro k
     simp only[Array.getD_eq_getD_getElem?,Array.getElem?_setIfInBounds]
     by_cases hki:k=i
     ·subst hki;simp[hls,hin]
     ·rw[if_neg (Ne.symm hki),if_neg hki]
    have hget:∀k,listed.getD k false=true→listed.getD k true=true:=by
     intro k hk
     simp only[Array.getD_eq_getD_getElem?]at hk ⊢
     cases hq:listed[k]? with
     |none=>rw[hq]at hk;simp at hk
     |some b=>rw[hq]at hk;simpa using hk
    have hiu:¬listed.getD i false=true:=fun h=>by have:=hget i h;rw[hun]at this;cases this
    have hclP:∀k ok,ops[k]? = some ok→listed.getD k false=true→∀e∈ok.after,Region.binds .any e=true→listed.getD e.on false=true:=fun k ok hk hl=>hcl k ok hk (hget k hl)
    -- once the operation is done
    have next:∀(F':FH) (η':Et) (v:Value) (w':World) (m':Nat),m'≤ops.size→(∀q,es.contains q=true→q<ops.size→((listed.setIfInBounds i true).getD q false=true↔q<m'))→Step F η (sv m) w F' η' (sv m') w'→GRel X F'→Rel F' η' nt cur (sv m') a w'→VRel F' η' (sv m').next r v→
      wpAny X.P .any ops (Post X nt F0 η0 σ w0 Q) fuel (listed.setIfInBounds i true) (a.put o.dst v) w':=by
     intro F' η' v w' m' hm' hml' s1 g1 r1 hv
     have hset:∀k,(listed.setIfInBounds i true).getD k true=if k=i then true else listed.getD k true:=by
      intro k
      simp only[Array.getD_eq_getD_getElem?,Array.getElem?_setIfInBounds]
      by_cases hki:k=i
      ·subst hki;simp[hls,hin]
      ·rw[if_neg (Ne.symm hki),if_neg hki]
     have hfewer:((List.range ops.size).filter (fun k=>!(listed.setIfInBounds i true).getD k true)).length<((List.range ops.size).filter (fun k=>!listed.getD k true)).length:=by
      have hsub:(List.range ops.size).filter (fun k=>!(listed.setIfInBounds i true).getD k true)=((List.range ops.size).filter (fun k=>!listed.getD k true)).filter (fun k=>k != i):=by
       rw[List.filter_filter]
       refine List.filter_congr fun k _=>?_
       rw[hset k]
       by_cases hki:k=i
       ·simp[hki]
       ·simp[hki]
      rw[hsub]
      refine List.length_filter_lt_length_iff_exists.2 ⟨i,?_,by simp⟩
      simp only[List.mem_filter,List.mem_range,Bool.not_eq_true']
      exact⟨hin,hun⟩
     refine ih _ (put cur o.dst r) F' η' _ w' (by simp[hls]) ?_ (fun _ _ _=>trivial) (by omega) m' hm' hml' (hs.trans s1) g1 (r1.put hdst hv) ?_ ?_ ?_
     ·intro hf k hk
      subst hf
      rw[hset k]
      by_cases hki:k=i
      ·rw[if_pos hki]
      ·rw[if_neg hki]
       cases hck:listed.getD k true with
       |true=>rfl
       |false=>
        exfalso
        have hkm:k∈(List.range ops.size).filter (fun k=>!(listed.setIfInBounds i true).getD k true):=by
         simp only[List.mem_filter,List.mem_range,Bool.not_eq_true',hset k,if_neg hki]
         exact⟨hk,hck⟩
        have:=List.length_pos_of_mem hkm
        omega
     ·intro t ht
      have hne:=ht i o ho (by rw[hset i,if_pos rfl])
      have hb':=hb t (fun i' o' hi' hl'=>ht i' o' hi' (by rw[hset i'];split<;>first|rfl|exact hl'))
      cases hod:o.dst with
      |none=>exact hb'
      |some d=>simp only[put];rw[if_neg (by intro e;subst e;exact hne hod)];exact hb'
     ·intro k ok hk hkl e he hbe
      have hold:listed.getD e.on false=true:=by
       by_cases hki:k=i
       ·subst hki
        rw[ho]at hk
        cases hk
        exact hdep e he hbe
       ·rw[hset k,if_neg hki]at hkl
        exact hcl k ok hk hkl e he hbe
      simp only[Array.getD_eq_getD_getElem?,Array.getElem?_setIfInBounds]at hold ⊢
      by_cases hei:i=e.on
      ·subst hei;simp[hls,hin]
      ·rw[if_neg hei];exact hold
     ·intro k ok t hk hkl hkt
      by_cases hki:k=i
      ·subst hki
       rw[ho]at hk
       simp only[Option.some.injEq]at hk
       subst hk
       rw[hkt]
       simp only[put,if_true]
       exact(hEr t hkt).symm
      ·rw[hset k,if_neg hki]at hkl
       have hne:o.dst≠some t:=((JN hc ho).2.2 k ok t hk hkt).1 hki
       have:put cur o.dst r t=cur t:=by
        cases hod:o.dst with
        |none=>rfl
        |some d=>simp only[put];rw[if_neg (by intro e;subst e;exact hne hod)]
       rw[this]
       exact hl k ok t hk hkl hkt
    unfold wpOp
    simp only[ho]
    cases hes:es.contains i with
    |false=>
     have hml2:∀q,es.contains q=true→q<ops.size→((listed.setIfInBounds i true).getD q false=true↔q<m):=by
      intro q hq hqs
      have hqi:q≠i:=fun h=>by subst h;rw[hes]at hq;cases hq
      rw[hset0 q,if_neg hqi]
      exact hml q hq hqs
     have hmT:S (sv m):=by
      rcases Nat.lt_or_ge m ops.size with h|h
      ·exact hsvT m (by simpa using h)
      ·have hme:m=ops.size:=by omega
       cases hlast:es.contains (ops.size-1)with
       |false=>
        have h1:=hsvk (ops.size-1) (by simp;omega) (by simpa using hlast)
        rw[show ops.size-1+1=m by omega]at h1
        rw[h1]
        exact hsvT _ (by simp;omega)
       |true=>
        exfalso
        have hli:=(hml (ops.size-1) hlast (by omega)).2 (by omega)
        rcases Nat.lt_or_ge i (ops.size-1)with h2|h2
        ·exact hiu (J0S (P:=fun k=>listed.getD k false=true) hclP _ _ i (J35 hc hlast h2) hli)
        ·have:i=ops.size-1:=by omega
         rw[←this]at hli;exact hiu hli
     have hag:S (sv m):=hmT
     have done:(aoper X o.op cur (sv m) (fun _ _ _=>False) fun v σ'=>σ'=sv m∧v=r)→o.wp X.P a w (wpAny X.P .any ops (Post X nt F0 η0 σ w0 Q) fuel (listed.setIfInBounds i true)) (Post X nt F0 η0 σ w0 Q):=by
      intro hop
      refine J0Z hg hr hdst hop ?_ ?_
      ·rintro F' η' x v σ' w' s1 g1 r1 hv ⟨rfl,rfl⟩
       exact next F' η' v w' m hmle hml2 s1 g1 r1 hv
      ·intro ch F' η' σ' w' _ _ _ hf
       exact hf.elim
     have skip:r=.d (.s undef)→wpAny X.P .any ops (Post X nt F0 η0 σ w0 Q) fuel (listed.setIfInBounds i true) (a.put o.dst undef) w:=by
      intro hru
      exact next F η undef w m hmle hml2 (.refl _ _ _ _) hg hr (by rw[hru];exact .d (.s _))
     obtain⟨_,hat'⟩:=hatp hes
     cases hgd:o.guard with
     |none=>
      simp only[hgd]at hat'
      rw[if_pos (by simp[Region.wanted,hgd])]
      exact .inl (done (J0h hpl hops (hat' (sv m) hag)))
     |some jw=>
      obtain⟨j,want⟩:=jw
      simp only[hgd]at hat'
      obtain⟨d,hjd,hdn,hat'⟩:=hat'
      have hed:e d=cur d:=hlooks d (by simp only[Oper.looksAt,hgd,hjd,List.mem_append];right;simp)
      rw[hed]at hat'
      rcases hat' with⟨h1,h2⟩|⟨h1,h2⟩|⟨h1,h2⟩
      ·obtain⟨hy1,hy2⟩:=JV hr hjd hdn h1
       have hy:yielded ops a.tmps j=some want:=by unfold yielded;rw[hy1,Option.bind_some,hy2]
       rw[if_pos (by simp[Region.wanted,hgd,hy])]
       exact .inl (done (J0h hpl hops (h2 (sv m) hag)))
      ·obtain⟨hy1,hy2⟩:=JV hr hjd hdn h1
       have hy:yielded ops a.tmps j=some (!want):=by unfold yielded;rw[hy1,Option.bind_some,hy2]
       rw[if_neg (by simp[Region.wanted,hgd,hy])]
       exact skip h2
      ·obtain⟨hy1,hy2⟩:=JV hr hjd hdn h1
       have hy:yielded ops a.tmps j=none:=by unfold yielded;rw[hy1,Option.bind_some,hy2];rfl
       rw[if_neg (by simp[Region.wanted,hgd,hy])]
       exact skip h2
    |true=>
     obtain⟨hgd,hop⟩:=hate hes
     have hmi:m≤i:=by
      rcases Nat.lt_or_ge i m with h|h
      ·exact absurd ((hml i hes hin).2 h) hiu
      ·exact h
     have hbefore:∀q,es.contains q=true→q<i→q<m:=by
      intro q hq hqi
      refine(hml q hq (by omega)).1 ?_
      exact J42 (P:=fun k=>listed.getD k false=true) hclP ho hdep _ q (J2p hc hes hq hqi)
     have hsvm:sv m=sv i:=by
      refine(hsvle m i hmi (by omega) fun q h1 h2=>?_).symm
      cases hqe:es.contains q with
      |false=>rfl
      |true=>have:=hbefore q hqe h2;omega
     have hml2:∀q,es.contains q=true→q<ops.size→((listed.setIfInBounds i true).getD q false=true↔q<i+1):=by
      intro q hq hqs
      rw[hset0 q]
      by_cases hqi:q=i
      ·subst hqi;simp
      ·rw[if_neg hqi,hml q hq hqs]
       constructor
       ·intro h;omega
       ·intro h;exact hbefore q hq (by omega)
     rw[if_pos (by simp[Region.wanted,hgd])]
     refine .inl (J0Z hg hr hdst (by rw[hsvm];exact J0h hpl hops hop) ?_ ?_)
     ·rintro F' η' x v σ' w' s1 g1 r1 hv ⟨rfl,rfl⟩
      exact next F' η' v w' (i+1) (by omega) hml2 s1 g1 r1 hv
     ·intro ch F' η' σ' w' _ _ _ hf
      exact hf.elim
 refine key ops.size _ env F0 η0 a0 _ (by simp) ?_ (fun _ _ _=>trivial) ?_ 0 (Nat.zero_le _) ?_ (by rw[hsv0];exact Step.drew) hg0 (by rw[hsv0];exact⟨hr0.fr.drew,hr0.st.drew,hr0.en,hr0.sz,hr0.df⟩) (fun _ _=>rfl) ?_ ?_
 ·intro h0 i hi;omega
 ·exact Nat.le_trans (List.length_filter_le _ _) (by simp)
 ·intro q _ hq
  simp[Array.getD,hq]
 ·intro i o hi hl
  have his:=(Array.getElem?_eq_some_iff.1 hi).1
  simp[Array.getD,his]at hl
 ·intro i o t hi hl
  have his:=(Array.getElem?_eq_some_iff.1 hi).1
  simp[Array.getD,his]at hl
section
variable {X:Cfg} {nt:Nat} {ops:Array Oper} {S:St→Prop} {es:List Nat} {n:Nat} {rest:List Oper} {Q:Exit→Env→St→Prop} {env:Env} {σ σ':St} {dst:Option Tmp} {op:Op} {ty:TypeId} {pos:String} {after:Array Edge} {r:AV}
theorem Vy (h:Q .normal env σ):ADS X nt ops S es Q n [] env σ:=⟨env,σ,.nil n env σ,h⟩
theorem J6m {o:Oper} (h:OpAtS X nt ops S o env r) (k:ADS X nt ops S es Q (n+1) rest (put env o.dst r) σ) (hne:es.contains n=false):ADS X nt ops S es Q n (o::rest) env σ:=by
 obtain⟨E,σF,h1,h2⟩:=k
 exact⟨E,σF,.op hne h h1,h2⟩
theorem Va (k:ADS X nt ops S es Q (n+1) rest (put env dst r) σ) (hs:∀σ',astep X env σ' op=some (r,σ'):=by intro _;exact rfl) (hd:dst.all (·<nt)=true:=by exact rfl) (hne:es.contains n=false:=by exact rfl):ADS X nt ops S es Q n (⟨dst,op,ty,pos,after,none⟩::rest) env σ:=
 J6m (o:=⟨dst,op,ty,pos,after,none⟩) ⟨hd,fun σ' _=>J2k (hs σ') ⟨rfl,rfl⟩⟩ k hne
theorem Vn {x:Operand} (k:ADS X nt ops S es Q (n+1) rest (put env dst r) σ) (ha:anil (aev X env x)=true:=by exact rfl) (hr:(aev X env x).force=some r:=by exact rfl) (hd:dst.all (·<nt)=true:=by exact rfl) (hne:es.contains n=false:=by exact rfl):ADS X nt ops S es Q n (⟨dst,.nilCheck x,ty,pos,after,none⟩::rest) env σ:=
 J6m (o:=⟨dst,.nilCheck x,ty,pos,after,none⟩) ⟨hd,fun σ' _=>by simp only[aoper,aop];exact⟨ha,trivial,JL hr⟩⟩ k hne
theorem Vl {p:Operand} {off t:Nat} {ti:TI} (i:Nat) (hS:∀σ',S σ'→∃cells,σ'.obj i=some (.var cells)∧pieceF (isAggK ti.kind) cells off ti.size=some r) (k:ADS X nt ops S es Q (n+1) rest (put env dst r) σ) (hp:aev X env p=.ref i off:=by exact rfl) (ht:X.T t=some ti:=by exact rfl)
  (hd:dst.all (·<nt)=true:=by exact rfl) (hne:es.contains n=false:=by exact rfl):ADS X nt ops S es Q n (⟨dst,.load t p,ty,pos,after,none⟩::rest) env σ:=
 J6m (o:=⟨dst,.load t p,ty,pos,after,none⟩) ⟨hd,fun σ' hs=>by
  obtain⟨cells,ho,hc⟩:=hS σ' hs
  simp only[aoper,aop,aload]
  exact⟨ti,ht,(cells,off),by simp only[hp,behind,ho],r,J0C hc,trivial,rfl⟩⟩ k hne
theorem Vq (h:∀σ',S σ'→aoper X op env σ' (fun _ _ _=>False) fun v σ2=>σ2=σ'∧v=r) (k:ADS X nt ops S es Q (n+1) rest (put env dst r) σ)
  (hd:dst.all (·<nt)=true:=by exact rfl) (hne:es.contains n=false:=by exact rfl):ADS X nt ops S es Q n (⟨dst,op,ty,pos,after,none⟩::rest) env σ:=
 J6m (o:=⟨dst,op,ty,pos,after,none⟩) ⟨hd,h⟩ k hne
theorem Ve (h:aoper X op env σ (fun _ _ _=>False) fun v σ2=>σ2=σ'∧v=r) (hT:rest=[]∨S σ') (k:ADS X nt ops S es Q (n+1) rest (put env dst r) σ') (hd:dst.all (·<nt)=true:=by exact rfl) (he:es.contains n=true:=by exact rfl):
  ADS X nt ops S es Q n (⟨dst,op,ty,pos,after,none⟩::rest) env σ:=by
 obtain⟨E,σF,h1,h2⟩:=k
 exact⟨E,σF,.eff (o:=⟨dst,op,ty,pos,after,none⟩) he hd rfl h hT h1,h2⟩
end
section
variable {X:Cfg} {nt:Nat} {Q:Exit→Env→St→Prop} {K:AV→St→Prop} {env:Env} {σ:St}
theorem J5J {t i v lo hi el sz:Nat} {x a b:Operand} {p q:Int} {ti te:TI} {rows:List (List AV)} (p' q':Nat) (hp:p=(p':Int)) (hq:q=(q':Int)) (hle:p'≤q') (hlt:q'≤hi-lo) (hx:aev X env x=.sl i v lo hi) (ha:aev X env a=vi p) (hb:aev X env b=vi q) (ht:X.T t=some ti)
  (hk:ti.kind=.slice el) (hte:X.T el=some te) (hsz:te.size=sz) (ho:σ.obj i=some (.row v el sz rows)) (h:K (.sl i v (lo+p') (lo+q')) σ):aoper X (.slice t x (some a) (some b) none) env σ Q K:=by
 subst hp;subst hq;subst hsz
 simp only[aoper,aop,aslice,Option.map_some,hx,ha,hb]
 refine⟨ti,ht,some (p':Int),rfl,some (q':Int),rfl,?_⟩
 rw[hk]
 simp only[Option.getD_some,Int.toNat_natCast]
 exact⟨by omega,by omega,by omega,⟨te,rows,hte,ho⟩,h⟩
end
theorem J22 {L:List Nat} {O O2:List (Option AO)} {σ:St} {j:Nat} (hO:O.length≤O2.length) (h:σ.next+(O2.length-O.length)≤j):(embSt L O O2 σ).obj j=none:=by
 show(if j<σ.next then _ else((O2[j-σ.next+O.length]?).join).map _)=none
 rw[if_neg (by omega),List.getElem?_eq_none (by omega)]
 rfl
theorem AFun.lowE {X:Cfg} {f:FuncId} {args:List AV} {σ:St} {K:AEnd→St→Prop} {r:AV} {O:List (Option AO)} (h:AFun X f args σ K) (R:List (Nat×Nat)) (hb:Nat.ble σ.next O.length=true) (hf:(R.all fun y=>Nat.ble σ.next y.1)=true) (hd:distN ((live 0 O).map (rn R))=true) (hr:Pm.low O.length r=true)
  (hk:∀E σ1,K E σ1→E=.ret (ren (rn R) r)∧LowStR (rn R) σ1 O.length 0 O):AFun X f args σ fun E σ'=>E=.ret r∧σ'=stL O:=by
 refine AFun.lowR h fun E σ1 hK=>?_
 obtain⟨h1,ho⟩:=hk E σ1 hK
 have hat:∀i o,(O[i]?).join=some o→(σ1.obj (rn R i)=some (renO (rn R) o)∧o.low O.length)∧i∈live 0 O:=fun i o h=>by
  have:=J27 ho i o h
  rwa [Nat.zero_add]at this
 refine⟨stL O,rn R,r,⟨rfl,rfl⟩,⟨J8c hf,Nat.le_of_ble_eq_true hb,fun i o h=>⟨?_,(hat i o h).1⟩,fun i j o o' h h' he'=>J3n hd i j (hat i o h).2 (hat j o' h').2 he',fun t=>.inl rfl⟩,h1,hr⟩
 have h1:(O[i]?).join=some o:=h
 rcases Nat.lt_or_ge i O.length with hlt|hge
 ·exact hlt
 ·rw[List.getElem?_eq_none hge]at h1;cases h1
end Go.Pm
/- Part of the proof: Pm53. -/
namespace Go.Pm
attribute [local irreducible] AR Ok inBlock andThen endQ aoper
inductive Wrd:AV→Prop
 |d (v:Value):Wrd (.d (.s v))
 |agg {cs:List AV} (h:∀j (hj:j<cs.length),Wrd cs[j]):Wrd (.agg cs)
 |tup {cs:List AV} (h:∀j (hj:j<cs.length),Wrd cs[j]):Wrd (.tup cs)
theorem JbL {F F':FH} {η η':Et} {n n':Nat} {x:AV} (h:Wrd x):∀{v:Value},VRel F η n x v→VRel F' η' n' x v:=by
 induction h with
 |d v=>intro u hu;rw[hu.s_inv];exact .d (.s v)
 |agg h ih=>
  intro u hu
  cases hu with
  |agg hn hr=>exact .agg hn fun j hj=>ih j hj (hr j hj)
 |tup h ih=>
  intro u hu
  cases hu with
  |tup hn hr=>exact .tup hn fun j hj=>ih j hj (hr j hj)
def wrdL:List AV→Prop
 |[]=>True
 |c::cs=>Wrd c∧wrdL cs
theorem J77:∀{cs:List AV},wrdL cs→∀j (hj:j<cs.length),Wrd cs[j]
 |c::cs,h,0,_=>h.1
 |c::cs,h,j+1,hj=>J77 h.2 j (by simpa using hj)
theorem JaY {cs:List AV} (h:wrdL cs):Wrd (.tup cs):=.tup (J77 h)
theorem BFun.lend {X:Cfg} {f:FuncId} {args args':List AV} {K:AEnd→FH→Prop} (h:BFun X f args' FH.non K) (Qr:AV→List (Sh×D×Value)→Prop) (hK:∀E τ',K E τ'→∃r L',E=.ret r∧Wrd r∧Tr τ' L'∧Qr r L') {σ:St} {i:Nat} {τ:FH} {l:List (Sh×D×Value)}
  (ha:LnL σ args args') (hi:σ.obj i=some (.box τ)) (hT:Tr τ l):AFun X f args σ fun A σ'=>∃r L' τ2,A=.ret r∧Qr r L'∧σ'=σ.set i (.box τ2)∧Tr τ2 (L'++l):=by
 have hn:=h.new St.nil
 refine⟨hn.1,fun F η w vals hg hf hs hnv hv=>(lookAt h.1 hn ha F η w vals hg hf hs hnv hv).mono ?_⟩
 rintro e w' ⟨h1,h2,h3,h4,F',η',σ1,A,hf',hs1,h5,⟨τ',hKA,rfl⟩,hnew⟩
 obtain⟨r,L',rfl,hw,hT',hQ⟩:=hK _ _ hKA
 cases e with
 |panicked c=>exact h5.elim
 |outgrown=>exact h5.elim
 |returned u=>
  have hb1:((St.nil.alloc (.box FH.non)).set St.nil.next (.box τ')).obj St.nil.next=some (.box τ'):=by rw[St.obj_set,if_pos rfl]
  have hge:∀b,τ' b≠none→w.heap.size≤b:=fun b hb=>hnew _ _ b hb1 hb
  have hin:∀b o,τ' b=some o→w'.heap[b]? = some o:=by
   have:=hs1.ob _ _ hb1
   cases this with
   |box hb=>exact hb
  have hlt:∀b,τ b≠none→b<w.heap.size:=fun b hb=>(hs.ob i _ hi).own_lt hb
  have hτ:∀b o,τ b=some o→w'.heap[b]? = some o:=by
   have:=h2.ob i _ hi
   cases this with
   |box hb=>exact hb
  have hd:Dsj τ' τ:=fun b=>by
   cases hx:τ' b with
   |none=>exact .inl rfl
   |some o=>
    right
    cases hy:τ b with
    |none=>rfl
    |some o'=>
     have:=hge b (by rw[hx];simp)
     have:=hlt b (by rw[hy];simp)
     omega
  have hj:∀b,(τ'.join τ) b≠none↔τ' b≠none∨τ b≠none:=fun b=>by
   unfold FH.join
   cases hx:τ' b with
   |none=>simp
   |some o=>simp
  have hob:∀q o,(σ.set i (.box (τ'.join τ))).obj q=some o→(q=i∧o=.box (τ'.join τ))∨(q≠i∧σ.obj q=some o):=fun q o hq=>by
   rw[St.obj_set]at hq
   by_cases e:q=i
   ·rw[if_pos e]at hq;exact .inl ⟨e,(Option.some.inj hq).symm⟩
   ·rw[if_neg e]at hq;exact .inr ⟨e,hq⟩
  refine⟨F,η,σ.set i (.box (τ'.join τ)),.ret r,⟨F.le_refl,Et.agree_refl _ _,Nat.le_refl _,h3,fun b hb _=>h4 b hb,fun q o b hq hb hlt2=>?_,fun b o hb _=>.inl hb⟩,h1,⟨fun q o hq=>?_,fun q o hq=>?_,fun q k oq ok b hq hk hbq hbk=>?_,fun q o b hq hb=>?_⟩,JbL hw h5,r,L',_,rfl,hQ,rfl,J44 hT' hT hd⟩
  ·rcases hob q o hq with⟨rfl,rfl⟩|⟨_,h⟩
   ·rcases(hj b).1 hb with z|z
    ·have:=hge b z;omega
    ·exact⟨_,_,hi,z⟩
   ·exact⟨q,o,h,hb⟩
  ·rcases hob q o hq with⟨rfl,_⟩|⟨_,h⟩
   ·exact h2.lt _ _ hi
   ·exact h2.lt _ _ h
  ·rcases hob q o hq with⟨rfl,rfl⟩|⟨_,h⟩
   ·refine .box fun b o hb=>?_
    unfold FH.join at hb
    cases hx:τ' b with
    |none=>rw[hx]at hb;exact hτ b o hb
    |some o'=>rw[hx]at hb;rw[hin b o' hx];exact hb
   ·exact h2.ob q o h
  ·rcases hob q oq hq with⟨e1,rfl⟩|⟨n1,g1⟩<;>rcases hob k ok hk with⟨e2,rfl⟩|⟨n2,g2⟩
   ·rw[e1,e2]
   ·exfalso
    rcases(hj b).1 hbq with z|z
    ·have:=hge b z;have:=(hs.ob k ok g2).own_lt hbk;omega
    ·exact n2 (h2.ap k i ok _ b g2 hi hbk z)
   ·exfalso
    rcases(hj b).1 hbk with z|z
    ·have:=hge b z;have:=(hs.ob q oq g1).own_lt hbq;omega
    ·exact n1 (h2.ap q i oq _ b g1 hi hbq z)
   ·exact h2.ap q k oq ok b g1 g2 hbq hbk
  ·rcases hob q o hq with⟨rfl,rfl⟩|⟨_,h⟩
   ·rcases(hj b).1 hb with z|z
    ·cases hx:F b with
     |none=>rfl
     |some o'=>have:=(Array.getElem?_eq_some_iff.1 (hf b o' hx)).1;have:=hge b z;omega
    ·exact h2.fr _ _ b hi z
   ·exact h2.fr q o b h hb
inductive Hole:(AV→AV)→Prop
 |here:Hole fun x=>x
 |agg {C:AV→AV} (pre post:List AV) (h:Hole C):Hole fun x=>.agg (pre++C x::post)
 |tup {C:AV→AV} (pre post:List AV) (h:Hole C):Hole fun x=>.tup (pre++C x::post)
theorem J8C {α:Type} (pre post:List α) (x y:α):(pre++x::post).length=(pre++y::post).length:=by simp
theorem J2l {α:Type} (pre post:List α) (x:α) (h:pre.length<(pre++x::post).length):(pre++x::post)[pre.length]=x:=by simp
theorem J7O {α:Type} (pre post:List α) (x y:α) {j:Nat} (hj:j≠pre.length) (h:j<(pre++x::post).length) (h':j<(pre++y::post).length):(pre++x::post)[j]=(pre++y::post)[j]:=by
 rcases Nat.lt_or_ge j pre.length with h1|h1
 ·rw[List.getElem_append_left h1,List.getElem_append_left h1]
 ·rw[List.getElem_append_right h1,List.getElem_append_right h1]
  obtain⟨k,hk⟩:∃k,j-pre.length=k+1:=⟨j-pre.length-1,by omega⟩
  simp only[hk,List.getElem_cons_succ]
theorem J9J {F:FH} {η:Et} {n:Nat} {C:AV→AV} (h:Hole C) {x:AV}:∀{v:Value},VRel F η n (C x) v→∃u,VRel F η n x u∧∀y,VRel F η n y u→VRel F η n (C y) v:=by
 induction h with
 |here=>intro v hv;exact⟨v,hv,fun y hy=>hy⟩
 |@agg C pre post h ih=>
  intro v hv
  cases hv with
  |agg hn hr=>
   have hp:pre.length<(pre++C x::post).length:=by simp
   have:=hr pre.length hp
   rw[J2l]at this
   obtain⟨u,h1,h2⟩:=ih this
   refine⟨u,h1,fun y hy=>.agg (by rw[hn];exact J8C _ _ _ _) fun j hj=>?_⟩
   by_cases e:j=pre.length
   ·subst e;rw[J2l];exact h2 y hy
   ·have hj':j<(pre++C x::post).length:=by simpa using hj
    rw[J7O pre post (C y) (C x) e hj hj'];exact hr j hj'
 |@tup C pre post h ih=>
  intro v hv
  cases hv with
  |tup hn hr=>
   have hp:pre.length<(pre++C x::post).length:=by simp
   have:=hr pre.length hp
   rw[J2l]at this
   obtain⟨u,h1,h2⟩:=ih this
   refine⟨u,h1,fun y hy=>.tup (by rw[hn];exact J8C _ _ _ _) fun j hj=>?_⟩
   by_cases e:j=pre.length
   ·subst e;rw[J2l];exact h2 y hy
   ·have hj':j<(pre++C x::post).length:=by simpa using hj
    rw[J7O pre post (C y) (C x) e hj hj'];exact hr j hj'
theorem AFun.close {X:Cfg} {f:FuncId} {args:List AV} {σ:St} {K K2:AEnd→St→Prop} (h:AFun X f args σ K) (i:Nat)
  (hk:∀E σ1,K E σ1→∃(C:AV→AV) (j v E':Nat) (ss:List Sh) (rows:List (List D)) (vs:List (List Value)) (l:List (Sh×D×Value)) (τ:FH),Hole C∧E=.ret (C (.sl j v 0 rows.length))∧σ1.obj i=some (.box τ)∧σ1.obj j=some (.row v E' ss.length (exR vs))∧
   agrs ss rows vs∧Tr τ (subss ss rows vs++l)∧∀u τ2,Tr τ2 ((.im E' ss,.im rows,u)::l)→K2 (.ret (C (.d (.s u)))) ((σ1.set i (.box τ2)).drop j)):AFun X f args σ K2:=by
 refine h.conv fun E σ1 hK F η w e hs he hn=>?_
 obtain⟨C,j,v,E',ss,rows,vs,l,τ,hC,rfl,hi,hj,hag,hT,hK2⟩:=hk E σ1 hK
 cases e with
 |panicked c=>exact he.elim
 |outgrown=>exact he.elim
 |returned u0=>
  obtain⟨u,hu,hback⟩:=J9J hC (show VRel F η σ1.next (C (.sl j v 0 rows.length)) u0 from he)
  obtain⟨τ2,h1,h2,h3⟩:=J5b hs hi hj hT hag hu
  have hne:j≠i:=fun e=>by rw[e,hi]at hj;cases hj
  have hob:∀q o,((σ1.set i (.box τ2)).drop j).obj q=some o→(q=i∧o=.box τ2)∨(q≠i∧q≠j∧σ1.obj q=some o):=fun q o hq=>by
   rw[St.obj_drop]at hq
   by_cases ej:q=j
   ·rw[if_pos ej]at hq;cases hq
   ·rw[if_neg ej,St.obj_set]at hq
    by_cases e:q=i
    ·rw[if_pos e]at hq;exact .inl ⟨e,(Option.some.inj hq).symm⟩
    ·rw[if_neg e]at hq;exact .inr ⟨e,ej,hq⟩
  refine⟨(σ1.set i (.box τ2)).drop j,.ret (C (.d (.s u))),hK2 u τ2 h1,⟨fun q o hq=>?_,fun q o hq=>?_,fun q k oq ok b hq hk hbq hbk=>?_,fun q o b hq hb=>?_⟩,hback _ (.d (.s u)),hn,fun q o b hq hb=>?_⟩
  ·rcases hob q o hq with⟨rfl,_⟩|⟨_,_,h⟩
   ·exact hs.lt _ _ hi
   ·exact hs.lt _ _ h
  ·rcases hob q o hq with⟨rfl,rfl⟩|⟨_,_,h⟩
   ·exact .box h2
   ·exact hs.ob q o h
  ·rcases hob q oq hq with⟨e1,rfl⟩|⟨n1,m1,g1⟩<;>rcases hob k ok hk with⟨e2,rfl⟩|⟨n2,m2,g2⟩
   ·rw[e1,e2]
   ·exfalso
    rcases(h3 b).1 hbq with z|z
    ·exact n2 (hs.ap k i ok _ b g2 hi hbk z)
    ·exact m2 (hs.ap k j ok _ b g2 hj hbk z)
   ·exfalso
    rcases(h3 b).1 hbk with z|z
    ·exact n1 (hs.ap q i oq _ b g1 hi hbq z)
    ·exact m1 (hs.ap q j oq _ b g1 hj hbq z)
   ·exact hs.ap q k oq ok b g1 g2 hbq hbk
  ·rcases hob q o hq with⟨rfl,rfl⟩|⟨_,_,h⟩
   ·rcases(h3 b).1 hb with z|z
    ·exact hs.fr _ _ b hi z
    ·exact hs.fr _ _ b hj z
   ·exact hs.fr q o b h hb
  ·rcases hob q o hq with⟨rfl,rfl⟩|⟨_,_,h⟩
   ·rcases(h3 b).1 hb with z|z
    ·exact⟨_,_,hi,z⟩
    ·exact⟨_,_,hj,z⟩
   ·exact⟨q,o,h,hb⟩
end Go.Pm
/- Part of the proof: Pm54. -/
namespace Go.Pm
attribute [local irreducible] AR Ok inBlock andThen endQ aoper
theorem J1s {n:Nat}:∀{cs:List AV},(∀j (hj:j<cs.length),low n cs[j]=true)→lows n cs=true
 |[],_=>rfl
 |c::cs,h=>by
  simp only[lows,Bool.and_eq_true]
  exact⟨h 0 (by simp),J1s fun j hj=>h (j+1) (by simpa using hj)⟩
theorem J4P {F:FH} {η:Et} {n:Nat} {x:AV} {v:Value} (h:VRel F η n x v):low n x=true:=by
 induction h with
 |d h=>rfl
 |agg hn h ih=>simp only[low];exact J1s ih
 |tup hn h ih=>simp only[low];exact J1s ih
 |ref hi=>simp only[low,decide_eq_true_eq];exact hi
 |sl h1 h2 _ _ _ _=>simp only[low,Bool.and_eq_true,decide_eq_true_eq];exact⟨h1,h2⟩
 |sl0 h1 h2 _=>simp only[low,Bool.and_eq_true,decide_eq_true_eq];exact⟨h1,h2⟩
 |ep h1 h2 _=>simp only[low,Bool.and_eq_true,decide_eq_true_eq];exact⟨h1,h2⟩
 |mp hi=>simp only[low,decide_eq_true_eq];exact hi
 |it hi=>simp only[low,decide_eq_true_eq];exact hi
 |fn hn h ih=>simp only[low];exact J1s ih
 |ifc h ih=>simp only[low];exact ih
 |any v=>rfl
theorem JaK {F:FH} {η:Et} {n:Nat} {w:World} {i:Nat} {o:AO} (h:ORel F η n w i o):o.low n:=by
 cases h with
 |var c E b1 b2 b3 b4=>exact J1s fun j hj=>J4P (b4 j hj)
 |row xs b1 b2 b3 b4 b5 b6 b7=>
  refine⟨b1,fun r hr=>?_⟩
  obtain⟨k,hk,rfl⟩:=List.getElem_of_mem hr
  exact J1s fun j hj=>J4P (b7 k hk j hj)
 |map e c b1 b2 b3 b4 b4' b5 b6 b7=>
  intro e he
  obtain⟨k,hk,rfl⟩:=List.getElem_of_mem he
  exact J4P (b7 k hk)
 |iter hb=>trivial
 |box hb=>trivial
theorem AFun.keep {X:Cfg} {f:FuncId} {args:List AV} {σ σ2:St} {r:AV} (hr:Pm.low 0 r=true) (h:AFun X f args σ fun E σ'=>E=.ret r∧∀j o,σ2.obj j=some o→σ'.obj j=some o) (hn:σ2.next=σ.next) (hlow:(∀j o,σ.obj j=some o→j<σ.next∧o.low σ.next)→∀j o,σ2.obj j=some o→j<σ.next∧o.low σ.next):
  AFun X f args σ fun E σ'=>E=.ret r∧σ'=σ2:=by
 refine⟨h.1,fun F η w vals hg hf hs hn' hv=>(h.2 F η w vals hg hf hs hn' hv).mono ?_⟩
 rintro e w' ⟨F',η',σ1,E,st,hf',hs1,he,rfl,hob⟩
 have hl:=hlow fun j o ho=>⟨hs.lt j o ho,JaK (hs.ob j o ho)⟩
 refine⟨F',η',σ2,.ret r,⟨st.fh,st.et,by rw[hn];exact Nat.le_refl _,st.gr,st.fm,fun i o b ho=>st.nw i o b (hob i o ho),st.nf⟩,hf',⟨fun i o ho=>by rw[hn];exact(hl i o ho).1,fun i o ho=>?_,fun i j oi oj b hi hj=>hs1.ap i j oi oj b (hob i oi hi) (hob j oj hj),fun i o b ho=>hs1.fr i o b (hob i o ho)⟩,?_,rfl,rfl⟩
 ·rw[hn];exact J1V (hs1.ob i o (hob i o ho)) (hl i o ho).2
 ·cases e with
  |returned v=>exact low0 (n':=σ2.next) (η':=η') (show VRel F' η' σ1.next r v from he) hr
  |panicked c=>exact he.elim
  |outgrown=>exact he.elim
theorem AFun.keep2 {X:Cfg} {f:FuncId} {args:List AV} {σ σ2:St} {r:AV} (hr:Pm.low 0 r=true) (h:AFun X f args σ fun E σ'=>E=.ret r∧σ'.next=σ2.next∧∀j o,σ2.obj j=some o→σ'.obj j=some o):AFun X f args σ fun E σ'=>E=.ret r∧σ'=σ2:=by
 refine⟨h.1,fun F η w vals hg hf hs hn' hv=>(h.2 F η w vals hg hf hs hn' hv).mono ?_⟩
 rintro e w' ⟨F',η',σ1,E,st,hf',hs1,he,rfl,hnx,hob⟩
 refine⟨F',η',σ2,.ret r,⟨st.fh,st.et,by rw[←hnx];exact st.nx,st.gr,st.fm,fun i o b ho=>st.nw i o b (hob i o ho),st.nf⟩,hf',⟨fun i o ho=>by rw[←hnx];exact hs1.lt i o (hob i o ho),fun i o ho=>?_,fun i j oi oj b hi hj=>hs1.ap i j oi oj b (hob i oi hi) (hob j oj hj),fun i o b ho=>hs1.fr i o b (hob i o ho)⟩,?_,rfl,rfl⟩
 ·rw[←hnx];exact hs1.ob i o (hob i o ho)
 ·cases e with
  |returned v=>exact low0 (n':=σ2.next) (η':=η') (show VRel F' η' σ1.next r v from he) hr
  |panicked c=>exact he.elim
  |outgrown=>exact he.elim
theorem AFun.back {X:Cfg} {f:FuncId} {args:List AV} {σ:St} {r:AV} (hr:Pm.low 0 r=true) (h:AFun X f args σ fun E σ'=>E=.ret r∧∀j o,σ.obj j=some o→σ'.obj j=some o):AFun X f args σ fun E σ'=>E=.ret r∧σ'=σ:=
 AFun.keep hr h rfl fun hl=>hl
theorem AFun.roL {X:Cfg} {f:FuncId} {args:List AV} {r:AV} {O:List (Option AO)} (h:AFun X f args (stL O) fun E σ'=>E=.ret r∧∀j,j<O.length→σ'.obj j=(stL O).obj j) (hO:∀(j:Nat) (o:AO),(O[j]?).join=some o→o.low O.length) (ha:lows O.length args=true) (hr:Pm.low O.length r=true)
  {σ:St} (hlt:O.length≤σ.next) (hob:∀(j:Nat) (o:AO),(O[j]?).join=some o→σ.obj j=some o):AFun X f args σ fun E σ'=>E=.ret r∧σ'=σ:=by
 have:=AFun.ro h hO ha hr (fun j=>j) (fun i j _ _ _ _ e=>e) (σ:=σ) (fun j hj=>by show j<σ.next;omega) (fun j o ho=>by rw[J7e];exact hob j o ho)
 rw[J16,J4c]at this
 exact this
section
variable {X:Cfg} {nt:Nat} {Q:Exit→Env→St→Prop} {K:AV→St→Prop} {env:Env} {σ:St}
theorem Yslh {α:Type} {e:α→List D} {l:List α} {t el:TypeId} {x z:Operand} {n:Int} {ti te:TI} (b:Nat) (r:List α) (hr:l.take b=r) (hK:K (.d (.im (r.map e))) σ)
  (hx:aev X env x=.d (.im (l.map e)):=by exact rfl) (hz:aev X env z=vi n:=by exact rfl) (ht:X.T t=some ti:=by exact rfl) (hk:ti.kind=.slice el:=by exact rfl) (hte:X.T el=some te:=by exact rfl) (hsz:∀u:α,(e u).length=te.size:=by exact fun _=>rfl) (hb:n=(b:Int):=by omega) (hbl:b≤l.length:=by omega):aoper X (.slice t x none (some z) none) env σ Q K:=by
 simp only[aoper,aop,aslice,Option.map_some,Option.map_none,optInt]
 rw[hx,hz]
 refine⟨ti,ht,none,rfl,some n,rfl,?_⟩
 rw[hk]
 subst hb hr
 refine⟨by simp,by simp,by simpa using hbl,⟨te,hte,fun r hr=>?_⟩,?_⟩
 ·obtain⟨u,_,rfl⟩:=List.mem_map.1 hr
  exact hsz u
 ·simpa[List.map_take]using hK
theorem Ysll {α:Type} {e:α→List D} {l:List α} {t el:TypeId} {x y:Operand} {m:Int} {ti te:TI} (a:Nat) (r:List α) (hr:l.drop a=r) (hK:K (.d (.im (r.map e))) σ)
  (hx:aev X env x=.d (.im (l.map e)):=by exact rfl) (hy:aev X env y=vi m:=by exact rfl) (ht:X.T t=some ti:=by exact rfl) (hk:ti.kind=.slice el:=by exact rfl) (hte:X.T el=some te:=by exact rfl) (hsz:∀u:α,(e u).length=te.size:=by exact fun _=>rfl) (ha:m=(a:Int):=by omega) (hal:a≤l.length:=by omega):aoper X (.slice t x (some y) none none) env σ Q K:=by
 simp only[aoper,aop,aslice,Option.map_some,Option.map_none,optInt]
 rw[hx,hy]
 refine⟨ti,ht,some m,rfl,none,rfl,?_⟩
 rw[hk]
 subst ha hr
 refine⟨by simp,by simpa using hal,by simp,⟨te,hte,fun r hr=>?_⟩,?_⟩
 ·obtain⟨u,_,rfl⟩:=List.mem_map.1 hr
  exact hsz u
 ·have e1:List.take (l.length-a) (List.drop a (l.map e))=(l.drop a).map e:=by rw[List.map_drop,List.take_of_length_le (by simp)]
  simpa[e1]using hK
end
end Go.Pm
/- Part of the proof: Pm55. -/
namespace Go.Pm
attribute [local irreducible] AR Ok inBlock andThen endQ aoper
section
variable {X:Cfg} {nt:Nat} {Q:Exit→Env→St→Prop} {K:AV→St→Prop} {env:Env} {σ:St}
theorem Utw {ars:Array Operand} {ts:Array TypeId} {s x:Operand} {t tx el i v k w a b n sz:Nat} {ti te tix:TI} {α:Type} {e:α→List D} {l r:List α} (hr:(l.drop a).take (b-a)=r) (ho:σ.obj i=some (.row v el sz [])) (hok:σ.obj k=some (.row w el sz (im2 e l))) (hbl:b≤l.length) (hf:∀z,(e z).length=sz) (hb:r.length≤2097153)
  (hK:K (.sl i n 0 r.length) (bumpSet σ i (.row n el sz (im2 e r))))
  (h1:ars.toList=[s,x]:=by exact rfl) (h2:ts.toList=[t,tx]:=by exact rfl) (hs:aev X env s=.sl i v 0 0:=by exact rfl) (hx:aev X env x=.sl k w a b:=by exact rfl) (ht:X.T t=some ti:=by exact rfl) (hk:ti.kind=.slice el:=by exact rfl) (hte:X.T el=some te:=by exact rfl) (hsz:te.size=sz:=by exact rfl) (hpz:Nat.blt 0 sz=true:=by exact rfl) (hby:Nat.blt 0 te.bytes=true:=by exact rfl) (hbb:Nat.ble te.bytes 1024=true:=by exact rfl)
  (htx:X.T tx=some tix:=by exact rfl) (hkx:tix.kind=.slice el:=by exact rfl) (hn:σ.next=n:=by exact rfl):aoper X (.call ⟨.builtin .append,ars,ts⟩) env σ Q K:=by
 subst hn
 subst hsz
 subst hr
 have hsl:((im2 e l).drop a).take (b-a)=im2 e ((l.drop a).take (b-a)):=by simp[im2,List.map_drop,List.map_take]
 have hln:(im2 e ((l.drop a).take (b-a))).length=((l.drop a).take (b-a)).length:=JK _ _
 simp only[aoper,abuiltin]
 rw[h1,h2]
 simp only[aappend]
 refine⟨ti,ht,el,te,hk,hte,Je hpz,Je hby,tix,htx,im2 e ((l.drop a).take (b-a)),?_,fun r hr=>?_,?_⟩
 ·rw[hkx,hx]
  simp only[srcOf,rowsOf,hok]
  rw[if_pos (by rw[JK];simp[hbl]),hsl]
 ·simp only[im2,List.map_map,List.mem_map]at hr
  obtain⟨y,_,rfl⟩:=hr
  simpa using hf y
 ·rw[hs]
  refine⟨rfl,[],ho,Nat.le_refl _,?_,?_⟩
  ·rw[hln,Nat.zero_add]
   exact Nat.le_trans (Nat.mul_le_mul hb (Nat.le_of_ble_eq_true hbb)) (by decide)
  ·rw[hln,Nat.zero_add]
   exact hK
end
end Go.Pm
/- Part of the proof: Bt1. -/
namespace Go.Pm
def B (l:List UInt8):ByteArray:=⟨l.toArray⟩
def itoaB (n:Int):ByteArray:=⟨(Lib.itoa n).toArray⟩
def boolT (v:Int):ByteArray:=if v≠0 then B [116,114,117,101]else B [102,97,108,115,101]
theorem JaM (a b c:ByteArray):a++b++c=a++(b++c):=by
 apply ByteArray.ext;simp[ByteArray.data_append,Array.append_assoc]
theorem Jcc (a:ByteArray):a++B []=a:=by apply ByteArray.ext;simp[ByteArray.data_append,B]
theorem JaG (a:ByteArray):B []++a=a:=by apply ByteArray.ext;simp[ByteArray.data_append,B]
def catT {α:Type} (f:α→ByteArray):List α→ByteArray
 |[]=>B []
 |x::l=>f x++catT f l
def joinT (sep:ByteArray):Nat→List ByteArray→ByteArray
 |_,[]=>B []
 |i,x::l=>(if 0<i then sep else B [])++(x++joinT sep (i+1) l)
def otBytes:List (Int×List UInt8):=[(6,[43]),(7,[45]),(8,[42]),(9,[47]),(10,[109,111,100]),(11,[61]),(12,[60,62]),(13,[60]),(14,[60,61]),(15,[62]),(16,[62,61]),(17,[97,110,100]),(18,[111,114]),(19,[120,111,114])]
def otS:List (Int×ByteArray):=otBytes.map fun y=>(y.1,⟨y.2.toArray⟩)
def otFind (n:Int):ByteArray:=((otS.find? fun y=>decide (y.1=n)).map (·.2)).getD ⟨#[]⟩
def kid (l:List ByteArray) (i:Nat):ByteArray:=l.getD i (B [])
def textK (x:Itm) (l:List ByteArray):ByteArray:=
 if x.op=1 then itoaB x.val else if x.op=2 then boolT x.val else if x.op=3 then x.name
 else if x.op=4 then B [40,45,32]++(kid l 0++B [41])
 else if x.op=5 then B [40,110,111,116,32]++(kid l 0++B [41])
 else if x.op=20 then B [40,105,102,32]++(kid l 0++(B [32,116,104,101,110,32]++(kid l 1++(B [32,101,108,115,101,32]++(kid l 2++B [41])))))
 else if x.op=21 then B [40]++(itoaB x.val++(B [32,102,98,121,32]++(kid l 0++B [41])))
 else if x.op=22 then B [40]++(boolT x.val++(B [32,102,98,121,32]++(kid l 0++B [41])))
 else if x.op=23 then B [40]++(kid l 0++((if x.val=1 then B [32,119,104,101,110,32]else B [32,119,104,101,110,111,116,32])++(x.name++B [41])))
 else if x.op=24 then B [40,109,101,114,103,101,32]++(x.name++(B [32]++(kid l 0++(B [32]++(kid l 1++B [41])))))
 else B [40]++(kid l 0++(B [32]++(otFind x.op++(B [32]++(kid l 1++B [41])))))
end Go.Pm
/- Part of the proof: Mk1. -/
namespace Go.Pm
theorem JaH {k:Nat} (h:k<10):itoaB (k:Int)=B [UInt8.ofNat (48+k)]:=by
 unfold itoaB B;rw[Lib.itoa_nonneg,Lib.decDigits,dif_pos h]
theorem Jaw {k:Nat} (h:¬k<10):itoaB (k:Int)=itoaB ((k / 10:Nat):Int)++B [UInt8.ofNat (48+k % 10)]:=by
 unfold itoaB B;rw[Lib.itoa_nonneg,Lib.itoa_nonneg,Lib.decDigits,dif_neg h]
 apply ByteArray.ext
 simp[ByteArray.data_append]
theorem Ja1 (n:Int) (h0:-9223372036854775808≤n) (h1:n≤9223372036854775807):(itoaB n).size≤21:=Lib.itoa_length_le n h0 h1
def digs (k:Nat):ByteArray:=if k=0 then B []else itoaB (k:Int)
theorem J9y {k:Nat} (h:0<k):digs k=digs (k / 10)++B [UInt8.ofNat (48+k % 10)]:=by
 unfold digs
 rw[if_neg (by omega)]
 by_cases h2:k<10
 ·rw[if_pos (by omega),JaG,JaH h2,Nat.mod_eq_of_lt h2]
 ·rw[if_neg (by omega),Jaw h2]
def markT (k:Int):ByteArray:=B [109]++itoaB k
def mkL {α:Type} (f:α→Int→α×Int):List α→Int→List α×Int
 |[],k=>([],k)
 |x::l,k=>((f x k).1::(mkL f l (f x k).2).1,(mkL f l (f x k).2).2)
def mkStr (_:ByteArray) (k:Int):ByteArray×Int:=(markT k,k+1)
def mkNum (_:Int) (k:Int):Int×Int:=(k,k+1)
def mkItm (_:Itm) (k:Int):Itm×Int:=(⟨k,k+1,markT (k+1+1)⟩,k+1+1+1)
def mkSlt (_:Slt) (k:Int):Slt×Int:=(⟨markT k,k+1⟩,k+1+1)
def mkCnd (_:Cnd) (k:Int):Cnd×Int:=(⟨markT k,decide ((k+1).tmod 3=0)⟩,k+1+1)
def mkItms:List Itm→Int→List Itm×Int:=mkL mkItm
def mkVr (x:Vr) (k:Int):Vr×Int:=(⟨markT k,k+1,(mkL mkCnd x.clock (k+1+1)).1⟩,(mkL mkCnd x.clock (k+1+1)).2)
def mkEqn (x:Eqn) (k:Int):Eqn×Int:=
 let a:=mkL mkStr x.lhs k
 let b:=mkL mkItm x.code a.2
 let c:=mkL mkItms x.args (b.2+1)
 (⟨a.1,b.1,markT b.2,c.1⟩,c.2)
def mkNod (x:Nod) (k:Int):Nod×Int:=
 let a:=mkL mkVr x.ins (k+1)
 let b:=mkL mkVr x.outs a.2
 let c:=mkL mkVr x.vars b.2
 let d:=mkL mkEqn x.eqs c.2
 (⟨markT k,a.1,b.1,c.1,d.1⟩,d.2)
def mkSm (x:Sm) (k:Int):Sm×Int:=
 let a:=mkL mkStr x.outs (k+1+1+1)
 let b:=mkL mkItm x.code a.2
 let c:=mkL mkItms x.args b.2
 (⟨k,markT (k+1),k+1+1,a.1,b.1,c.1⟩,c.2)
def mkCls (x:Cls) (k:Int):Cls×Int:=
 let a:=mkL mkSlt x.ins (k+1)
 let b:=mkL mkSlt x.outs a.2
 let c:=mkL mkStr x.locs b.2
 let d:=mkL mkNum x.mems c.2
 let e:=mkL mkNum x.insts d.2
 let f:=mkL mkSm x.body e.2
 (⟨markT k,a.1,b.1,c.1,d.1,e.1,f.1⟩,f.2)
theorem J0W {α:Type} (f:α→Int→α×Int):∀(l:List α) (k:Int),(mkL f l k).1.length=l.length
 |[],_=>rfl
 |x::l,k=>by simp only[mkL,List.length_cons,J0W f l]
def Cnt {α:Type} (f:α→Int→α×Int) (w:α→Nat):Prop:=∀x k,k≤(f x k).2∧(f x k).2≤k+4*(1+(w x:Int))
theorem J0w {α:Type} {w:α→Nat} (x:α) (l:List α):wL w (x::l)=(1+w x)+wL w l:=by
 simp only[wL,List.length_cons,List.map_cons,List.sum_cons];omega
theorem cntL {α:Type} {f:α→Int→α×Int} {w:α→Nat} (h:Cnt f w):∀(l:List α) (k:Int),k≤(mkL f l k).2∧(mkL f l k).2≤k+4*(wL w l:Int)
 |[],k=>by simp[mkL,wL]
 |x::l,k=>by
  have h1:=h x k
  have h2:=cntL h l (f x k).2
  have e:=J0w (w:=w) x l
  simp only[mkL]
  omega
theorem cntS:Cnt mkStr wStr:=fun x k=>by simp only[mkStr];omega
theorem cntN:Cnt mkNum wNum0:=fun x k=>by simp only[mkNum];omega
theorem cntI:Cnt mkItm wItm:=fun x k=>by simp only[mkItm];omega
theorem cntSl:Cnt mkSlt wSlt:=fun x k=>by simp only[mkSlt];omega
theorem cntIs:Cnt mkItms (wL wItm):=fun x k=>by have:=cntL cntI x k;unfold mkItms;omega
theorem cntSm:Cnt mkSm wSm:=fun x k=>by
 have h1:=cntL cntS x.outs (k+1+1+1)
 have h2:=cntL cntI x.code (mkL mkStr x.outs (k+1+1+1)).2
 have h3:=cntL cntIs x.args (mkL mkItm x.code (mkL mkStr x.outs (k+1+1+1)).2).2
 simp only[mkSm,wSm];omega
theorem cntCl:Cnt mkCls wCls:=fun x k=>by
 have h1:=cntL cntSl x.ins (k+1)
 have h2:=cntL cntSl x.outs (mkL mkSlt x.ins (k+1)).2
 have h3:=cntL cntS x.locs (mkL mkSlt x.outs (mkL mkSlt x.ins (k+1)).2).2
 have h4:=cntL cntN x.mems (mkL mkStr x.locs (mkL mkSlt x.outs (mkL mkSlt x.ins (k+1)).2).2).2
 have h5:=cntL cntN x.insts (mkL mkNum x.mems (mkL mkStr x.locs (mkL mkSlt x.outs (mkL mkSlt x.ins (k+1)).2).2).2).2
 have h6:=cntL cntSm x.body (mkL mkNum x.insts (mkL mkNum x.mems (mkL mkStr x.locs (mkL mkSlt x.outs (mkL mkSlt x.ins (k+1)).2).2).2).2).2
 simp only[mkCls,wCls];omega
end Go.Pm
