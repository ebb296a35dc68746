/- Part of the proof: Pm45. -/
import Derived.Test.YtdjanhhljinokaaGreatDoorT11
set_option linter.unusedVariables false
set_option linter.unusedSimpArgs false
namespace Go.Pm
attribute [local irreducible] AR Ok inBlock andThen endQ aoper
theorem JY {ss:List Sh}:∀{A B:List (List D)} {a b:List (List Value)},a.length=A.length→subss ss (A++B) (a++b)=subss ss A a++subss ss B b
 |[],_,[],_,_=>rfl
 |r::A,B,v::a,b,h=>by simp only[List.cons_append,subss,JY (ss:=ss) (A:=A) (B:=B) (a:=a) (b:=b) (by simpa using h),List.append_assoc]
 |[],_,_::_,_,h=>by simp at h
 |_::_,_,[],_,h=>by simp at h
theorem J07 {ss:List Sh}:∀{A B:List (List D)} {a b:List (List Value)},agrs ss A a→agrs ss B b→agrs ss (A++B) (a++b)
 |[],_,[],_,_,h=>h
 |r::A,B,v::a,b,h,h'=>⟨h.1,J07 h.2 h'⟩
 |[],_,_::_,_,h,_=>h.elim
 |_::_,_,[],_,h,_=>h.elim
theorem J0M {ss:List Sh}:∀{A B:List (List D)} {x:List D} {vs:List (List Value)},agrs ss (A++x::B) vs→∃a r b,vs=a++r::b∧a.length=A.length∧agrs ss A a∧agr ss x r∧agrs ss B b
 |[],B,x,v::vs,h=>⟨[],v,vs,rfl,rfl,trivial,h.1,h.2⟩
 |y::A,B,x,v::vs,h=>by
  obtain⟨a,r,b,h1,h2,h3,h4,h5⟩:=J0M h.2
  exact⟨v::a,r,b,by rw[h1];rfl,by simp[h2],⟨h.1,h3⟩,h4,h5⟩
 |[],_,_,[],h=>h.elim
 |_::_,_,_,[],h=>h.elim
theorem JM {α:Type} {ss:List Sh} {e:α→List D} {v:α→List Value} (h:∀x,agr ss (e x) (v x)):∀l:List α,agrs ss (l.map e) (l.map v)
 |[]=>trivial
 |x::l=>⟨h x,JM h l⟩
def Words (ss:List Sh):Prop:=∀ds vs,subs ss ds vs=[]
theorem JH {ss:List Sh} (h:Words ss):∀(rows:List (List D)) (vs:List (List Value)),subss ss rows vs=[]
 |[],_=>by cases ‹List (List Value)›<;>rfl
 |_::_,[]=>rfl
 |r::rows,v::vs=>by simp only[subss,h r v,JH h rows vs,List.nil_append]
theorem J2b:Words []:=fun ds vs=>by cases ds<;>cases vs<;>rfl
theorem J0p {ss:List Sh} (h:Words ss):Words (.w::ss):=fun ds vs=>by
 cases ds with
 |nil=>cases vs<;>rfl
 |cons d ds=>cases vs with
  |nil=>rfl
  |cons v vs=>exact h ds vs
def trv (vs:List (List Value)) (m:Nat) (z:List AV):List (List AV):=exR vs++List.replicate m z
theorem J42 (vs:List (List Value)) (z:List AV):trv vs 0 z=exR vs:=by simp[trv]
theorem Jay (vs:List (List Value)) (m:Nat) (z:List AV) (v:List Value):(trv vs (m+1) z).set vs.length (v.map ex1)=trv (vs++[v]) m z:=by
 simp only[trv]
 rw[List.set_append_right _ _ (by rw[J1h];exact Nat.le_refl _),J1h,Nat.sub_self,List.replicate_succ,List.set_cons_zero]
 simp[exR]
theorem Jam (vs:List (List Value)) (m:Nat) (z:List AV):(trv vs (m+1) z)[vs.length]? = some z:=by
 simp only[trv]
 rw[List.getElem?_append_right (by rw[J1h];exact Nat.le_refl _),J1h,Nat.sub_self,List.replicate_succ];rfl
theorem JaO (n:Nat) (v:List Value):lows n (v.map ex1)=true:=J8a fun c hc=>by
 obtain⟨u,_,rfl⟩:=List.mem_map.1 hc;rfl
theorem J0l (vs:List (List Value)) (n:Nat):∀r∈exR vs,lows n r=true:=fun r hr=>by
 obtain⟨v,_,rfl⟩:=List.mem_map.1 hr;exact JaO n v
theorem J5U (vs:List (List Value)) (m n:Nat) {z:List AV} (hz:lows n z=true):∀r∈trv vs m z,lows n r=true:=fun r hr=>by
 rcases List.mem_append.1 hr with h|h
 ·exact J0l vs n r h
 ·rw[(List.mem_replicate.1 h).2];exact hz
theorem Tr.sl {τ:FH} {E:TypeId} {ss:List Sh} {d:D} {u:Value} {l:List (Sh×D×Value)} (h:Tr τ ((.im E ss,d,u)::l)):∃a n c,u=.slice a n c:=by
 cases h<;>exact⟨_,_,_,rfl⟩
theorem J0m {α:Type} {e:α→List D} {v:α→List Value} (h:∀x,(e x).map AV.d=(v x).map ex1) (l:List α):im2 e l=exR (l.map v):=by
 simp only[im2,exR,List.map_map]
 exact List.map_congr_left fun x _=>by simpa using h x
section
variable {X:Cfg} {nt:Nat} {Q:Exit→Env→St→Prop} {K:AV→St→Prop} {env:Env} {σ:St}
theorem J66 {vs:List (List Value)} {n k:Nat} {z:List AV} {v:List Value} {t i h el sz:Nat} {ti:TI} {p x:Operand} (hv:vs.length=k) (hlt:k<n) (hp:aev X env p=.ep i h k 0) (ht:X.T t=some ti) (hxc:(aev X env x).cells=some (v.map ex1))
  (hl:v.length=ti.size) (h1:(v.map ex1).all AV.one=true) (hz:z.length=ti.size) (ho:σ.obj i=some (.row h el sz (trv vs (n-k) z))) (hk:K (.d (.s undef)) (σ.set i (.row h el sz (trv (vs++[v]) (n-(k+1)) z)))):aoper X (.store t p x) env σ Q K:=by
 subst hv
 simp only[aoper,aop,astore]
 refine⟨ti,ht,_,hxc,by simpa using hl,h1,?_⟩
 simp only[hp]
 have e0:n-vs.length=(n-(vs.length+1))+1:=by omega
 rw[e0]at ho
 refine⟨el,sz,_,ho,z,Jam vs _ z,by omega,?_⟩
 have e1:splice z 0 (v.map ex1)=v.map ex1:=by simp[splice,hz,hl]
 rw[e1,Jay]
 exact hk
end
end Go.Pm
/- Part of the proof: Pm46. -/
namespace Go.Pm
attribute [local irreducible] AR Ok inBlock andThen endQ aoper
theorem J7X (A:List (List Value)) (r:List Value) (B:List (List Value)):(exR (A++r::B))[A.length]? = some (r.map ex1):=by
 simp[exR]
theorem Jb0 (A:List (List Value)) (r r':List Value) (B:List (List Value)):(exR (A++r::B)).set A.length (r'.map ex1)=exR (A++r'::B):=by
 simp[exR]
theorem len1 {r:List Value} (h:r.length=1):∃a,r=[a]:=by
 match r,h with
 |[a],_=>exact⟨a,rfl⟩
theorem len2 {r:List Value} (h:r.length=2):∃a b,r=[a,b]:=by
 match r,h with
 |[a,b],_=>exact⟨a,b,rfl⟩
theorem len3 {r:List Value} (h:r.length=3):∃a b c,r=[a,b,c]:=by
 match r,h with
 |[a,b,c],_=>exact⟨a,b,c,rfl⟩
theorem len6 {r:List Value} (h:r.length=6):∃a b c d e f,r=[a,b,c,d,e,f]:=by
 match r,h with
 |[a,b,c,d,e,f],_=>exact⟨a,b,c,d,e,f,rfl⟩
theorem len7 {r:List Value} (h:r.length=7):∃a b c d e f g,r=[a,b,c,d,e,f,g]:=by
 match r,h with
 |[a,b,c,d,e,f,g],_=>exact⟨a,b,c,d,e,f,g,rfl⟩
section
variable {X:Cfg} {nt:Nat} {Q:Exit→Env→St→Prop} {K:AV→St→Prop} {env:Env} {σ:St}
theorem J14 {A B:List (List Value)} {r r':List Value} {v:Value} {k c i h el sz:Nat} {t:TypeId} {ti:TI} {p x:Operand} (hA:A.length=k) (hr:r.take c++v::r.drop (c+1)=r') (hc:Nat.blt c r.length=true)
  (hp:aev X env p=.ep i h k c) (ht:X.T t=some ti) (hs:ti.size=1) (hx:(aev X env x).cells=some [.d (.s v)]) (hv:v.oneCell'=true) (ho:σ.obj i=some (.row h el sz (exR (A++r::B))))
  (hk:K (.d (.s undef)) (σ.set i (.row h el sz (exR (A++r'::B))))):aoper X (.store t p x) env σ Q K:=by
 subst hA
 subst hr
 have hc:=Je hc
 simp only[aoper,aop,astore]
 refine⟨ti,ht,_,hx,by simp[hs],by simpa[AV.one]using hv,?_⟩
 simp only[hp]
 refine⟨el,sz,_,ho,_,J7X A r B,by simp[hs];omega,?_⟩
 have e1:splice (r.map ex1) c [.d (.s v)]=(r.take c++v::r.drop (c+1)).map ex1:=by
  simp[splice,ex1]
 rw[e1,Jb0]
 exact hk
theorem J1m {A B:List (List Value)} {r:List Value} {v:Value} {k c i h el sz:Nat} {t:TypeId} {ti:TI} {p:Operand} (hA:A.length=k) (hr:r[c]? = some v)
  (hp:aev X env p=.ep i h k c) (ht:X.T t=some ti) (hs:ti.size=1) (ha:isAggK ti.kind=false) (ho:σ.obj i=some (.row h el sz (exR (A++r::B))))
  (hk:K (.d (.s v)) σ):aoper X (.load t p) env σ Q K:=by
 subst hA
 simp only[aoper,aop,aload]
 have hb:behind σ (.ep i h A.length c)=some (r.map ex1,c):=by
  simp only[behind,ho]
  rw[J7X];rfl
 refine⟨ti,ht,_,by rw[hp];exact hb,_,?_,hk⟩
 have hc:(r.map ex1)[c]? = some (.d (.s v)):=by rw[List.getElem?_map,hr];rfl
 rw[ha,hs]
 simp only[piece]
 exact hc
end
end Go.Pm
/- Part of the proof: Pm47. -/
namespace Go.Pm
attribute [local irreducible] AR Ok inBlock andThen endQ aoper
def RowFun (X:Cfg) (f:FuncId) (pre post:List AV) (E:TypeId) (sz:Nat) (vs vs':List (List Value)):Prop:=
 lows 0 pre=true∧lows 0 post=true∧AFun X f (pre++.sl 0 1 0 vs.length::post) (stL [some (.row 1 E sz (exR vs)),none]) fun A σ'=>∃j v,A=.ret (.sl j v 0 vs'.length)∧σ'.obj j=some (.row v E sz (exR vs'))
end Go.Pm
/- Part of the proof: Pm48. -/
namespace Go.Pm
attribute [local irreducible] AR Ok inBlock andThen endQ aoper
section
variable {X:Cfg} {nt:Nat} {Q:Exit→Env→St→Prop} {K:AV→St→Prop} {env:Env} {σ:St}
end
end Go.Pm
/- Part of the proof: Pm49. -/
namespace Go.Pm
attribute [local irreducible] AR Ok inBlock andThen endQ aoper
def St.over (σ:St) (O:List (Option AO)):St:=⟨fun j=>if j<O.length then(O[j]?).join else σ.obj j,σ.next⟩
end Go.Pm
/- Part of the proof: Pm50. -/
namespace Go.Pm
attribute [local irreducible] AR Ok inBlock andThen endQ aoper
section
variable {X:Cfg} {nt:Nat} {Q:Exit→Env→St→Prop} {K:AV→St→Prop} {env:Env} {σ:St}
end
end Go.Pm
/- Part of the proof: Pm51. -/
namespace Go.Pm
attribute [local irreducible] AR Ok inBlock andThen endQ aoper
def nmb (L:List Nat) (j:Nat):Nat:=L.getD j 0
def idx:List Nat→List (Option AO)→Nat→Nat→Option Nat
 |a::L,some _::O,k,i=>if i=a then some k else idx L O (k+1) i
 |_::L,none::O,k,i=>idx L O (k+1) i
 |_,_,_,_=>none
def dist:List Nat→List (Option AO)→Prop
 |a::L,some _::O=>(∀(d:Nat) (o:AO),L[d]? = some a→(O[d]?).join=some o→False)∧dist L O
 |_::L,none::O=>dist L O
 |_,_=>True
def embSt (L:List Nat) (O O2:List (Option AO)) (σ:St):St:=mrg (stL O) σ (nmb L) (idx L O 0) (stL O2)
end Go.Pm
/- Part of the proof: Pm52. -/
namespace Go.Pm
attribute [local irreducible] AR Ok inBlock andThen endQ aoper
def OpAtS (X:Cfg) (nt:Nat) (ops:Array Oper) (S:St→Prop) (o:Oper) (env:Env) (r:AV):Prop:=
 o.dst.all (·<nt)=true∧
 match o.guard with
 |none=>∀σ',S σ'→aoper X o.op env σ' (fun _ _ _=>False) fun v σ2=>σ2=σ'∧v=r
 |some (j,want)=>∃d,(ops[j]?).bind (·.dst)=some d∧d<nt∧
   ((env d=.d (.s (.bool want))∧∀σ',S σ'→aoper X o.op env σ' (fun _ _ _=>False) fun v σ2=>σ2=σ'∧v=r)∨(env d=.d (.s (.bool (!want)))∧r=.d (.s undef))∨(env d=.d (.s undef)∧r=.d (.s undef)))
inductive LRS (X:Cfg) (nt:Nat) (ops:Array Oper) (S:St→Prop) (es:List Nat):Nat→List Oper→Env→St→Env→St→Prop
 |nil (n:Nat) (E:Env) (σ:St):LRS X nt ops S es n [] E σ E σ
 |op {n:Nat} {o:Oper} {rest:List Oper} {env E:Env} {σ σ2:St} {r:AV} (hne:es.contains n=false) (h:OpAtS X nt ops S o env r) (k:LRS X nt ops S es (n+1) rest (put env o.dst r) σ E σ2):LRS X nt ops S es n (o::rest) env σ E σ2
 |eff {n:Nat} {o:Oper} {rest:List Oper} {env E:Env} {σ σ1 σ2:St} {r:AV} (he:es.contains n=true) (hd:o.dst.all (·<nt)=true) (hg:o.guard=none) (h:aoper X o.op env σ (fun _ _ _=>False) fun v σ'=>σ'=σ1∧v=r)
   (hT:rest=[]∨S σ1) (k:LRS X nt ops S es (n+1) rest (put env o.dst r) σ1 E σ2):LRS X nt ops S es n (o::rest) env σ E σ2
theorem LRS.facts {X:Cfg} {nt:Nat} {ops:Array Oper} {S:St→Prop} {es:List Nat}:∀{n:Nat} {l:List Oper} {env E:Env} {σ σF:St},LRS X nt ops S es n l env σ E σF→S σ→
  (∀(i j:Nat) (oi oj:Oper) (d:Nat),i≠j→l[i]? = some oi→l[j]? = some oj→oi.dst=some d→oj.dst≠some d)→
  (∀t,(∀o∈l,o.dst≠some t)→E t=env t)∧
  ∃sv:Nat→St,sv 0=σ∧sv l.length=σF∧(∀k,k<l.length→S (sv k))∧(∀k,k<l.length→es.contains (n+k)=false→sv (k+1)=sv k)∧
  ∀(k:Nat) (o:Oper),l[k]? = some o→∃e r,o.dst.all (·<nt)=true∧(es.contains (n+k)=false→OpAtS X nt ops S o e r)∧
   (es.contains (n+k)=true→o.guard=none∧aoper X o.op e (sv k) (fun _ _ _=>False) fun v σ'=>σ'=sv (k+1)∧v=r)∧
   (∀d,o.dst=some d→E d=r)∧(∀t,(∀(j:Nat) (oj:Oper),j<k→l[j]? = some oj→oj.dst≠some t)→e t=env t)∧(∀(j:Nat) (oj:Oper) (t:Nat),j<k→l[j]? = some oj→oj.dst=some t→e t=E t)
 |n,[],env,E,σ,σF,h,_,_=>by
  cases h
  exact⟨fun _ _=>rfl,fun _=>σ,rfl,rfl,fun k hk=>by simp at hk,fun k hk=>by simp at hk,fun k o h=>by simp at h⟩
 |n,o::rest,env,E,σ,σF,h,hS0,hd=>by
  -- the first operation gives r and the state σ1
  obtain⟨r,σ1,hdst,hop,heff,hT,hsame,hrun⟩:∃r σ1,o.dst.all (·<nt)=true∧(es.contains n=false→OpAtS X nt ops S o env r)∧(es.contains n=true→o.guard=none∧aoper X o.op env σ (fun _ _ _=>False) fun v σ'=>σ'=σ1∧v=r)∧
    (rest=[]∨S σ1)∧(es.contains n=false→σ1=σ)∧LRS X nt ops S es (n+1) rest (put env o.dst r) σ1 E σF:=by
   cases h with
   |op hne h k=>exact⟨_,σ,h.1,fun _=>h,(fun he=>by rw[hne]at he;cases he),.inr hS0,fun _=>rfl,k⟩
   |eff he hd hg h hT k=>exact⟨_,_,hd,(fun hne=>by rw[hne]at he;cases he),fun _=>⟨hg,h⟩,hT,(fun hne=>by rw[hne]at he;cases he),k⟩
  obtain⟨h1,sv,hs0,hsF,hsT,hsk,h2⟩:(∀t,(∀o∈rest,o.dst≠some t)→E t=put env o.dst r t)∧
  ∃sv:Nat→St,sv 0=σ1∧sv rest.length=σF∧(∀k,k<rest.length→S (sv k))∧(∀k,k<rest.length→es.contains (n+1+k)=false→sv (k+1)=sv k)∧
  ∀(k:Nat) (o':Oper),rest[k]? = some o'→∃e r',o'.dst.all (·<nt)=true∧(es.contains (n+1+k)=false→OpAtS X nt ops S o' e r')∧
   (es.contains (n+1+k)=true→o'.guard=none∧aoper X o'.op e (sv k) (fun _ _ _=>False) fun v σ'=>σ'=sv (k+1)∧v=r')∧
   (∀d,o'.dst=some d→E d=r')∧(∀t,(∀(j:Nat) (oj:Oper),j<k→rest[j]? = some oj→oj.dst≠some t)→e t=put env o.dst r t)∧(∀(j:Nat) (oj:Oper) (t:Nat),j<k→rest[j]? = some oj→oj.dst=some t→e t=E t):=by
   have hdr:∀(i j:Nat) (oi oj:Oper) (d:Nat),i≠j→rest[i]? = some oi→rest[j]? = some oj→oi.dst=some d→oj.dst≠some d:=fun i j oi oj d hij hi hj=>hd (i+1) (j+1) oi oj d (by omega) (by simpa using hi) (by simpa using hj)
   rcases hT with hT|hT
   ·subst hT
    cases hrun
    exact⟨fun _ _=>rfl,fun _=>_,rfl,rfl,fun k hk=>by simp at hk,fun k hk=>by simp at hk,fun k o h=>by simp at h⟩
   ·exact hrun.facts hT hdr
  have hfst:∀d,o.dst=some d→E d=r:=by
   intro d hod
   rw[h1 d fun o' ho'=>?_]
   ·simp[put,hod]
   ·obtain⟨j,hj⟩:=List.getElem?_of_mem ho'
    exact hd 0 (j+1) o o' d (by omega) (by simp) (by simpa using hj) hod
  have hput:∀t,o.dst≠some t→put env o.dst r t=env t:=by
   intro t ht
   cases hod:o.dst with
   |none=>rfl
   |some d=>simp only[put];rw[if_neg (by intro e;subst e;exact ht hod)]
  refine⟨fun t ht=>?_,fun k=>match k with|0=>σ|k+1=>sv k,rfl,by simpa using hsF,fun k hk=>?_,fun k hk hne=>?_,fun k' o' hk'=>?_⟩
  ·rw[h1 t fun o' ho'=>ht o' (by simp[ho'])]
   exact hput t (ht o (by simp))
  ·cases k with
   |zero=>exact hS0
   |succ k=>exact hsT k (by simpa using hk)
  ·cases k with
   |zero=>show sv 0=σ;rw[hs0];exact hsame (by simpa using hne)
   |succ k=>exact hsk k (by simpa using hk) (by rw[show n+1+k=n+(k+1) by omega];exact hne)
  ·cases k' with
   |zero=>
    simp only[List.getElem?_cons_zero,Option.some.injEq]at hk'
    subst hk'
    exact⟨env,r,hdst,fun hne=>hop (by simpa using hne),fun he=>by
     obtain⟨hg,ha⟩:=heff (by simpa using he)
     refine⟨hg,?_⟩
     show aoper X o.op env σ _ fun v σ'=>σ'=sv 0∧v=r
     rw[hs0];exact ha,hfst,fun _ _=>rfl,fun j oj t hj=>by omega⟩
   |succ k'=>
    obtain⟨e,r',a0,a1,a1',a2,a3,a4⟩:=h2 k' o' (by simpa using hk')
    refine⟨e,r',a0,fun hne=>a1 (by rw[show n+1+k'=n+(k'+1) by omega];exact hne),fun he=>a1' (by rw[show n+1+k'=n+(k'+1) by omega];exact he),a2,fun t ht=>?_,fun j oj t hj hoj hot=>?_⟩
    ·rw[a3 t fun j oj hj hoj=>ht (j+1) oj (by omega) (by simpa using hoj)]
     exact hput t (ht 0 o (by omega) (by simp))
    ·cases j with
     |zero=>
      simp only[List.getElem?_cons_zero,Option.some.injEq]at hoj
      subst hoj
      have hno:∀o''∈rest,o''.dst≠some t:=fun o'' ho''=>by
       obtain⟨j,hj⟩:=List.getElem?_of_mem ho''
       exact hd 0 (j+1) o o'' t (by omega) (by simp) (by simpa using hj) hot
      rw[a3 t (fun j oj _ hoj=>hno oj (List.mem_of_getElem? hoj)),h1 t hno]
     |succ j=>exact a4 j oj t (by omega) (by simpa using hoj) hot
def ADS (X:Cfg) (nt:Nat) (ops:Array Oper) (S:St→Prop) (es:List Nat) (Q:Exit→Env→St→Prop) (n:Nat) (rest:List Oper) (env:Env) (σ:St):Prop:=∃E σF,LRS X nt ops S es n rest env σ E σF∧Q .normal E σF
theorem J17 {X:Cfg} {nt id:Nat} {ops:Array Oper} {Q:Exit→Env→St→Prop} {env:Env} {σ:St} (S:St→Prop) (es:List Nat) (hm:X.P.follows .mixedOrders=true) (hc:drawOkE ops es=true) (h0S:S σ) (h:ADS X nt ops S es Q 0 ops.toList env σ):
  Ok X nt (.region id ops true) Q env σ:=by
 unfold Ok
 intro F0 η0 a0 w0 hg0 hr0
 obtain⟨E,σF,hlr,hQ⟩:=h
 obtain⟨hbase,sv,hsv0,hsvF,hsvT,hsvk,hfacts⟩:=hlr.facts h0S fun i j oi oj d hij hi hj hdi hdj=>by
  simp only[Array.getElem?_toList]at hi hj
  exact((JJ hc hi).2.2 j oj d hj hdj).1 (Ne.symm hij) hdi
 refine wp_region_any hm ?_
 have hsvle:∀a b,a≤b→b≤ops.size→(∀q,a≤q→q<b→es.contains q=false)→sv b=sv a:=by
  intro a b hab
  induction b with
  |zero=>
   intro _ _;have:a=0:=by omega
   subst this;rfl
  |succ b ih=>
   intro hb hno
   by_cases hab':a=b+1
   ·subst hab';rfl
   ·rw[hsvk b (by simp;omega) (by simpa using hno b (by omega) (by omega)),ih (by omega) (by omega) (fun q h1 h2=>hno q h1 (by omega))]
 have key:∀(fuel:Nat) (listed:Array Bool) (cur:Env) (F:FH) (η:Et) (a:Act) (w:World),listed.size=ops.size→(fuel=0→∀i,i<ops.size→listed.getD i true=true)→
   (∀i,i<ops.size→listed.getD i true=false→True)→((List.range ops.size).filter (fun i=>!listed.getD i true)).length≤fuel→
   ∀m:Nat,m≤ops.size→(∀q,es.contains q=true→q<ops.size→(listed.getD q false=true↔q<m))→Step F0 η0 σ w0 F η (sv m) w→GRel X F→Rel F η nt cur (sv m) a w→
   (∀t,(∀i o,ops[i]? = some o→listed.getD i true=true→o.dst≠some t)→cur t=env t)→(∀i o,ops[i]? = some o→listed.getD i true=true→∀e∈o.after,Region.binds .any e=true→listed.getD e.on false=true)→(∀i o t,ops[i]? = some o→listed.getD i true=true→o.dst=some t→cur t=E t)→
   wpAny X.P .any ops (Post X nt F0 η0 σ w0 Q) fuel listed a w:=by
  intro fuel
  induction fuel with
  |zero=>
   intro listed cur F η a w hls h0 _ hlen m hmle hml hs hg hr hb hcl hl
   have hall:=h0 rfl
   have hE:cur=E:=by
    funext t
    by_cases ht:∀o∈ops.toList,o.dst≠some t
    ·rw[hb t (fun i o hi _=>ht o (by simpa using Array.mem_of_getElem? hi)),hbase t ht]
    ·have ⟨o,ho,hot⟩:∃o,o∈ops.toList∧o.dst=some t:=by
      apply Classical.byContradiction
      intro hno
      exact ht fun o ho hot=>hno ⟨o,ho,hot⟩
     obtain⟨i,hi⟩:=List.getElem?_of_mem ho
     simp only[Array.getElem?_toList]at hi
     exact hl i o t hi (hall i (Array.getElem?_eq_some_iff.1 hi).1) hot
   subst hE
   have hmF:sv m=σF:=by
    rw[←hsvF,Array.length_toList]
    refine(hsvle m ops.size hmle (Nat.le_refl _) fun q h1 h2=>?_).symm
    cases hqe:es.contains q with
    |false=>rfl
    |true=>
     have h3:=(hml q hqe h2).1 (by have:=hall q h2;simpa[Array.getD,show q<listed.size by omega]using this)
     omega
   rw[hmF]at hs hr
   refine⟨?_,⟨F,η,cur,σF,hs,hg,hr,hQ⟩⟩
   cases hrd:Region.ready .any ops listed with
   |nil=>rfl
   |cons i rest=>
    obtain⟨h1,h2,_⟩:=J0D (ops:=ops) (listed:=listed) (i:=i) (by rw[hrd];simp)
    rw[hall i h1]at h2;cases h2
  |succ fuel ih=>
   intro listed cur F η a w hls h0 _ hlen m hmle hml hs hg hr hb hcl hl
   refine⟨fun hnil=>?_,fun i hi=>?_⟩
   ·have hall:=J4r hc hls hnil
    have hE:cur=E:=by
     funext t
     by_cases ht:∀o∈ops.toList,o.dst≠some t
     ·rw[hb t (fun i o hi _=>ht o (by simpa using Array.mem_of_getElem? hi)),hbase t ht]
     ·have ⟨o,ho,hot⟩:∃o,o∈ops.toList∧o.dst=some t:=by
       apply Classical.byContradiction
       intro hno
       exact ht fun o ho hot=>hno ⟨o,ho,hot⟩
      obtain⟨i,hi⟩:=List.getElem?_of_mem ho
      simp only[Array.getElem?_toList]at hi
      exact hl i o t hi (hall i (Array.getElem?_eq_some_iff.1 hi).1) hot
    subst hE
    have hmF:sv m=σF:=by
     rw[←hsvF,Array.length_toList]
     refine(hsvle m ops.size hmle (Nat.le_refl _) fun q h1 h2=>?_).symm
     cases hqe:es.contains q with
     |false=>rfl
     |true=>
      have h3:=(hml q hqe h2).1 (by have:=hall q h2;simpa[Array.getD,show q<listed.size by omega]using this)
      omega
    rw[hmF]at hs hr
    exact⟨F,η,cur,σF,hs,hg,hr,hQ⟩
   ·obtain⟨hin,hun,o,ho,hdep⟩:=J0D hi
    obtain⟨hpl,hbef,hlook⟩:=JJ hc ho
    obtain⟨e,r,hdst,hatp,hate,hEr,hebase,hedone⟩:=hfacts i o (by simpa using ho)
    rw[Nat.zero_add]at hatp hate
    have hlooks:∀t∈o.looksAt ops,e t=cur t:=by
     intro t ht
     by_cases hw:∀o∈ops.toList,o.dst≠some t
     ·rw[hebase t (fun j oj _ hoj=>hw oj (List.mem_of_getElem? hoj)),hb t (fun i o hi _=>hw o (by simpa using Array.mem_of_getElem? hi))]
     ·have ⟨oj,hoj,hot⟩:∃o,o∈ops.toList∧o.dst=some t:=by
       apply Classical.byContradiction
       intro hno
       exact hw fun o ho hot=>hno ⟨o,ho,hot⟩
      obtain⟨j,hj⟩:=List.getElem?_of_mem hoj
      simp only[Array.getElem?_toList]at hj
      rcases(hlook j oj t hj hot).2 ht with⟨ed,hed,hbd,hon⟩|⟨ed,hed,hbd,hon⟩
      ·have hlt:=hbef ed hed hbd
       have hjl:=hdep ed hed hbd
       rw[hon]at hlt hjl
       rw[hedone j oj t hlt (by simpa using hj) hot]
       refine(hl j oj t hj ?_ hot).symm
       have hjs:j<listed.size:=by rw[hls];exact(Array.getElem?_eq_some_iff.1 hj).1
       simpa[Array.getD,hjs]using hjl
      ·have hlt:=(JJ hc hj).2.1 ed hed hbd
       rw[hon]at hlt
       have hone:∀(j':Nat) (oj':Oper),ops[j']? = some oj'→oj'.dst=some t→j'=j:=fun j' oj' hj' hot'=>
        Classical.byContradiction fun hne=>((JJ hc hj').2.2 j oj t hj hot).1 (Ne.symm hne) hot'
       have hju:¬listed.getD j true=true:=fun hjl=>by
        have h6:=hcl j oj hj hjl ed hed hbd
        rw[hon]at h6
        have hil:i<listed.size:=by omega
        simp only[Array.getD,hil,dif_pos]at h6 hun
        rw[h6]at hun;cases hun
       rw[hebase t (fun j' oj' hj'k hoj' hot'=>by have:=hone j' oj' (by simpa using hoj') hot';omega),hb t (fun j' oj' hoj' hjl hot'=>by have:=hone j' oj' hoj' hot';subst this;exact hju hjl)]
    have hops:∀x∈o.op.operands.toList,aev X e x=aev X cur x:=by
     intro x hx
     refine J3b fun t ht=>hlooks t ?_
     subst ht
     simp only[Oper.looksAt,List.mem_append,List.mem_filterMap]
     exact .inl ⟨_,hx,rfl⟩
    have hset0:∀k,(listed.setIfInBounds i true).getD k false=if k=i then true else listed.getD k false:=by
     intro k
     simp only[Array.getD_eq_getD_getElem?,Array.getElem?_setIfInBounds]
     by_cases hki:k=i
     ·subst hki;simp[hls,hin]
     ·rw[if_neg (Ne.symm hki),if_neg hki]
    have hget:∀k,listed.getD k false=true→listed.getD k true=true:=by
     intro k hk
     simp only[Array.getD_eq_getD_getElem?]at hk ⊢
     cases hq:listed[k]? with
     |none=>rw[hq]at hk;simp at hk
     |some b=>rw[hq]at hk;simpa using hk
    have hiu:¬listed.getD i false=true:=fun h=>by have:=hget i h;rw[hun]at this;cases this
    have hclP:∀k ok,ops[k]? = some ok→listed.getD k false=true→∀e∈ok.after,Region.binds .any e=true→listed.getD e.on false=true:=fun k ok hk hl=>hcl k ok hk (hget k hl)
    -- once the operation is done
    have next:∀(F':FH) (η':Et) (v:Value) (w':World) (m':Nat),m'≤ops.size→(∀q,es.contains q=true→q<ops.size→((listed.setIfInBounds i true).getD q false=true↔q<m'))→Step F η (sv m) w F' η' (sv m') w'→GRel X F'→Rel F' η' nt cur (sv m') a w'→VRel F' η' (sv m').next r v→
      wpAny X.P .any ops (Post X nt F0 η0 σ w0 Q) fuel (listed.setIfInBounds i true) (a.put o.dst v) w':=by
     intro F' η' v w' m' hm' hml' s1 g1 r1 hv
     have hset:∀k,(listed.setIfInBounds i true).getD k true=if k=i then true else listed.getD k true:=by
      intro k
      simp only[Array.getD_eq_getD_getElem?,Array.getElem?_setIfInBounds]
      by_cases hki:k=i
      ·subst hki;simp[hls,hin]
      ·rw[if_neg (Ne.symm hki),if_neg hki]
     have hfewer:((List.range ops.size).filter (fun k=>!(listed.setIfInBounds i true).getD k true)).length<((List.range ops.size).filter (fun k=>!listed.getD k true)).length:=by
      have hsub:(List.range ops.size).filter (fun k=>!(listed.setIfInBounds i true).getD k true)=((List.range ops.size).filter (fun k=>!listed.getD k true)).filter (fun k=>k != i):=by
       rw[List.filter_filter]
       refine List.filter_congr fun k _=>?_
       rw[hset k]
       by_cases hki:k=i
       ·simp[hki]
       ·simp[hki]
      rw[hsub]
      refine List.length_filter_lt_length_iff_exists.2 ⟨i,?_,by simp⟩
      simp only[List.mem_filter,List.mem_range,Bool.not_eq_true']
      exact⟨hin,hun⟩
     refine ih _ (put cur o.dst r) F' η' _ w' (by simp[hls]) ?_ (fun _ _ _=>trivial) (by omega) m' hm' hml' (hs.trans s1) g1 (r1.put hdst hv) ?_ ?_ ?_
     ·intro hf k hk
      subst hf
      rw[hset k]
      by_cases hki:k=i
      ·rw[if_pos hki]
      ·rw[if_neg hki]
       cases hck:listed.getD k true with
       |true=>rfl
       |false=>
        exfalso
        have hkm:k∈(List.range ops.size).filter (fun k=>!(listed.setIfInBounds i true).getD k true):=by
         simp only[List.mem_filter,List.mem_range,Bool.not_eq_true',hset k,if_neg hki]
         exact⟨hk,hck⟩
        have:=List.length_pos_of_mem hkm
        omega
     ·intro t ht
      have hne:=ht i o ho (by rw[hset i,if_pos rfl])
      have hb':=hb t (fun i' o' hi' hl'=>ht i' o' hi' (by rw[hset i'];split<;>first|rfl|exact hl'))
      cases hod:o.dst with
      |none=>exact hb'
      |some d=>simp only[put];rw[if_neg (by intro e;subst e;exact hne hod)];exact hb'
     ·intro k ok hk hkl e he hbe
      have hold:listed.getD e.on false=true:=by
       by_cases hki:k=i
       ·subst hki
        rw[ho]at hk
        cases hk
        exact hdep e he hbe
       ·rw[hset k,if_neg hki]at hkl
        exact hcl k ok hk hkl e he hbe
      simp only[Array.getD_eq_getD_getElem?,Array.getElem?_setIfInBounds]at hold ⊢
      by_cases hei:i=e.on
      ·subst hei;simp[hls,hin]
      ·rw[if_neg hei];exact hold
     ·intro k ok t hk hkl hkt
      by_cases hki:k=i
      ·subst hki
       rw[ho]at hk
       simp only[Option.some.injEq]at hk
       subst hk
       rw[hkt]
       simp only[put,if_true]
       exact(hEr t hkt).symm
      ·rw[hset k,if_neg hki]at hkl
       have hne:o.dst≠some t:=((JJ hc ho).2.2 k ok t hk hkt).1 hki
       have:put cur o.dst r t=cur t:=by
        cases hod:o.dst with
        |none=>rfl
        |some d=>simp only[put];rw[if_neg (by intro e;subst e;exact hne hod)]
       rw[this]
       exact hl k ok t hk hkl hkt
    unfold wpOp
    simp only[ho]
    cases hes:es.contains i with
    |false=>
     have hml2:∀q,es.contains q=true→q<ops.size→((listed.setIfInBounds i true).getD q false=true↔q<m):=by
      intro q hq hqs
      have hqi:q≠i:=fun h=>by subst h;rw[hes]at hq;cases hq
      rw[hset0 q,if_neg hqi]
      exact hml q hq hqs
     have hmT:S (sv m):=by
      rcases Nat.lt_or_ge m ops.size with h|h
      ·exact hsvT m (by simpa using h)
      ·have hme:m=ops.size:=by omega
       cases hlast:es.contains (ops.size-1)with
       |false=>
        have h1:=hsvk (ops.size-1) (by simp;omega) (by simpa using hlast)
        rw[show ops.size-1+1=m by omega]at h1
        rw[h1]
        exact hsvT _ (by simp;omega)
       |true=>
        exfalso
        have hli:=(hml (ops.size-1) hlast (by omega)).2 (by omega)
        rcases Nat.lt_or_ge i (ops.size-1)with h2|h2
        ·exact hiu (J0T (P:=fun k=>listed.getD k false=true) hclP _ _ i (J2W hc hlast h2) hli)
        ·have:i=ops.size-1:=by omega
         rw[←this]at hli;exact hiu hli
     have hag:S (sv m):=hmT
     have done:(aoper X o.op cur (sv m) (fun _ _ _=>False) fun v σ'=>σ'=sv m∧v=r)→o.wp X.P a w (wpAny X.P .any ops (Post X nt F0 η0 σ w0 Q) fuel (listed.setIfInBounds i true)) (Post X nt F0 η0 σ w0 Q):=by
      intro hop
      refine J0Y hg hr hdst hop ?_ ?_
      ·rintro F' η' x v σ' w' s1 g1 r1 hv ⟨rfl,rfl⟩
       exact next F' η' v w' m hmle hml2 s1 g1 r1 hv
      ·intro ch F' η' σ' w' _ _ _ hf
       exact hf.elim
     have skip:r=.d (.s undef)→wpAny X.P .any ops (Post X nt F0 η0 σ w0 Q) fuel (listed.setIfInBounds i true) (a.put o.dst undef) w:=by
      intro hru
      exact next F η undef w m hmle hml2 (.refl _ _ _ _) hg hr (by rw[hru];exact .d (.s _))
     obtain⟨_,hat'⟩:=hatp hes
     cases hgd:o.guard with
     |none=>
      simp only[hgd]at hat'
      rw[if_pos (by simp[Region.wanted,hgd])]
      exact .inl (done (J0h hpl hops (hat' (sv m) hag)))
     |some jw=>
      obtain⟨j,want⟩:=jw
      simp only[hgd]at hat'
      obtain⟨d,hjd,hdn,hat'⟩:=hat'
      have hed:e d=cur d:=hlooks d (by simp only[Oper.looksAt,hgd,hjd,List.mem_append];right;simp)
      rw[hed]at hat'
      rcases hat' with⟨h1,h2⟩|⟨h1,h2⟩|⟨h1,h2⟩
      ·obtain⟨hy1,hy2⟩:=JS hr hjd hdn h1
       have hy:yielded ops a.tmps j=some want:=by unfold yielded;rw[hy1,Option.bind_some,hy2]
       rw[if_pos (by simp[Region.wanted,hgd,hy])]
       exact .inl (done (J0h hpl hops (h2 (sv m) hag)))
      ·obtain⟨hy1,hy2⟩:=JS hr hjd hdn h1
       have hy:yielded ops a.tmps j=some (!want):=by unfold yielded;rw[hy1,Option.bind_some,hy2]
       rw[if_neg (by simp[Region.wanted,hgd,hy])]
       exact skip h2
      ·obtain⟨hy1,hy2⟩:=JS hr hjd hdn h1
       have hy:yielded ops a.tmps j=none:=by unfold yielded;rw[hy1,Option.bind_some,hy2];rfl
       rw[if_neg (by simp[Region.wanted,hgd,hy])]
       exact skip h2
    |true=>
     obtain⟨hgd,hop⟩:=hate hes
     have hmi:m≤i:=by
      rcases Nat.lt_or_ge i m with h|h
      ·exact absurd ((hml i hes hin).2 h) hiu
      ·exact h
     have hbefore:∀q,es.contains q=true→q<i→q<m:=by
      intro q hq hqi
      refine(hml q hq (by omega)).1 ?_
      exact J3s (P:=fun k=>listed.getD k false=true) hclP ho hdep _ q (J2g hc hes hq hqi)
     have hsvm:sv m=sv i:=by
      refine(hsvle m i hmi (by omega) fun q h1 h2=>?_).symm
      cases hqe:es.contains q with
      |false=>rfl
      |true=>have:=hbefore q hqe h2;omega
     have hml2:∀q,es.contains q=true→q<ops.size→((listed.setIfInBounds i true).getD q false=true↔q<i+1):=by
      intro q hq hqs
      rw[hset0 q]
      by_cases hqi:q=i
      ·subst hqi;simp
      ·rw[if_neg hqi,hml q hq hqs]
       constructor
       ·intro h;omega
       ·intro h;exact hbefore q hq (by omega)
     rw[if_pos (by simp[Region.wanted,hgd])]
     refine .inl (J0Y hg hr hdst (by rw[hsvm];exact J0h hpl hops hop) ?_ ?_)
     ·rintro F' η' x v σ' w' s1 g1 r1 hv ⟨rfl,rfl⟩
      exact next F' η' v w' (i+1) (by omega) hml2 s1 g1 r1 hv
     ·intro ch F' η' σ' w' _ _ _ hf
      exact hf.elim
 refine key ops.size _ env F0 η0 a0 _ (by simp) ?_ (fun _ _ _=>trivial) ?_ 0 (Nat.zero_le _) ?_ (by rw[hsv0];exact Step.drew) hg0 (by rw[hsv0];exact⟨hr0.fr.drew,hr0.st.drew,hr0.en,hr0.sz,hr0.df⟩) (fun _ _=>rfl) ?_ ?_
 ·intro h0 i hi;omega
 ·exact Nat.le_trans (List.length_filter_le _ _) (by simp)
 ·intro q _ hq
  simp[Array.getD,hq]
 ·intro i o hi hl
  have his:=(Array.getElem?_eq_some_iff.1 hi).1
  simp[Array.getD,his]at hl
 ·intro i o t hi hl
  have his:=(Array.getElem?_eq_some_iff.1 hi).1
  simp[Array.getD,his]at hl
section
variable {X:Cfg} {nt:Nat} {ops:Array Oper} {S:St→Prop} {es:List Nat} {n:Nat} {rest:List Oper} {Q:Exit→Env→St→Prop} {env:Env} {σ σ':St} {dst:Option Tmp} {op:Op} {ty:TypeId} {pos:String} {after:Array Edge} {r:AV}
theorem Vx {K':Env→St→Prop} (h:K' env σ):ADS X nt ops S es (andThen K' Q) n [] env σ:=⟨env,σ,.nil n env σ,J3 h⟩
theorem J6f {o:Oper} (h:OpAtS X nt ops S o env r) (k:ADS X nt ops S es Q (n+1) rest (put env o.dst r) σ) (hne:es.contains n=false):ADS X nt ops S es Q n (o::rest) env σ:=by
 obtain⟨E,σF,h1,h2⟩:=k
 exact⟨E,σF,.op hne h h1,h2⟩
end
section
variable {X:Cfg} {nt:Nat} {Q:Exit→Env→St→Prop} {K:AV→St→Prop} {env:Env} {σ:St}
end
end Go.Pm
/- Part of the proof: Pm53. -/
namespace Go.Pm
attribute [local irreducible] AR Ok inBlock andThen endQ aoper
inductive Wrd:AV→Prop
 |d (v:Value):Wrd (.d (.s v))
 |agg {cs:List AV} (h:∀j (hj:j<cs.length),Wrd cs[j]):Wrd (.agg cs)
 |tup {cs:List AV} (h:∀j (hj:j<cs.length),Wrd cs[j]):Wrd (.tup cs)
theorem Jbm {F F':FH} {η η':Et} {n n':Nat} {x:AV} (h:Wrd x):∀{v:Value},VRel F η n x v→VRel F' η' n' x v:=by
 induction h with
 |d v=>intro u hu;rw[hu.s_inv];exact .d (.s v)
 |agg h ih=>
  intro u hu
  cases hu with
  |agg hn hr=>exact .agg hn fun j hj=>ih j hj (hr j hj)
 |tup h ih=>
  intro u hu
  cases hu with
  |tup hn hr=>exact .tup hn fun j hj=>ih j hj (hr j hj)
def wrdL:List AV→Prop
 |[]=>True
 |c::cs=>Wrd c∧wrdL cs
theorem J6Y:∀{cs:List AV},wrdL cs→∀j (hj:j<cs.length),Wrd cs[j]
 |c::cs,h,0,_=>h.1
 |c::cs,h,j+1,hj=>J6Y h.2 j (by simpa using hj)
theorem JaE {cs:List AV} (h:wrdL cs):Wrd (.agg cs):=.agg (J6Y h)
theorem BFun.lend {X:Cfg} {f:FuncId} {args args':List AV} {K:AEnd→FH→Prop} (h:BFun X f args' FH.non K) (Qr:AV→List (Sh×D×Value)→Prop) (hK:∀E τ',K E τ'→∃r L',E=.ret r∧Wrd r∧Tr τ' L'∧Qr r L') {σ:St} {i:Nat} {τ:FH} {l:List (Sh×D×Value)}
  (ha:LnL σ args args') (hi:σ.obj i=some (.box τ)) (hT:Tr τ l):AFun X f args σ fun A σ'=>∃r L' τ2,A=.ret r∧Qr r L'∧σ'=σ.set i (.box τ2)∧Tr τ2 (L'++l):=by
 have hn:=h.new St.nil
 refine⟨hn.1,fun F η w vals hg hf hs hnv hv=>(lookAt h.1 hn ha F η w vals hg hf hs hnv hv).mono ?_⟩
 rintro e w' ⟨h1,h2,h3,h4,F',η',σ1,A,hf',hs1,h5,⟨τ',hKA,rfl⟩,hnew⟩
 obtain⟨r,L',rfl,hw,hT',hQ⟩:=hK _ _ hKA
 cases e with
 |panicked c=>exact h5.elim
 |outgrown=>exact h5.elim
 |returned u=>
  have hb1:((St.nil.alloc (.box FH.non)).set St.nil.next (.box τ')).obj St.nil.next=some (.box τ'):=by rw[St.obj_set,if_pos rfl]
  have hge:∀b,τ' b≠none→w.heap.size≤b:=fun b hb=>hnew _ _ b hb1 hb
  have hin:∀b o,τ' b=some o→w'.heap[b]? = some o:=by
   have:=hs1.ob _ _ hb1
   cases this with
   |box hb=>exact hb
  have hlt:∀b,τ b≠none→b<w.heap.size:=fun b hb=>(hs.ob i _ hi).own_lt hb
  have hτ:∀b o,τ b=some o→w'.heap[b]? = some o:=by
   have:=h2.ob i _ hi
   cases this with
   |box hb=>exact hb
  have hd:Dsj τ' τ:=fun b=>by
   cases hx:τ' b with
   |none=>exact .inl rfl
   |some o=>
    right
    cases hy:τ b with
    |none=>rfl
    |some o'=>
     have:=hge b (by rw[hx];simp)
     have:=hlt b (by rw[hy];simp)
     omega
  have hj:∀b,(τ'.join τ) b≠none↔τ' b≠none∨τ b≠none:=fun b=>by
   unfold FH.join
   cases hx:τ' b with
   |none=>simp
   |some o=>simp
  have hob:∀q o,(σ.set i (.box (τ'.join τ))).obj q=some o→(q=i∧o=.box (τ'.join τ))∨(q≠i∧σ.obj q=some o):=fun q o hq=>by
   rw[St.obj_set]at hq
   by_cases e:q=i
   ·rw[if_pos e]at hq;exact .inl ⟨e,(Option.some.inj hq).symm⟩
   ·rw[if_neg e]at hq;exact .inr ⟨e,hq⟩
  refine⟨F,η,σ.set i (.box (τ'.join τ)),.ret r,⟨F.le_refl,Et.agree_refl _ _,Nat.le_refl _,h3,fun b hb _=>h4 b hb,fun q o b hq hb hlt2=>?_,fun b o hb _=>.inl hb⟩,h1,⟨fun q o hq=>?_,fun q o hq=>?_,fun q k oq ok b hq hk hbq hbk=>?_,fun q o b hq hb=>?_⟩,Jbm hw h5,r,L',_,rfl,hQ,rfl,J3O hT' hT hd⟩
  ·rcases hob q o hq with⟨rfl,rfl⟩|⟨_,h⟩
   ·rcases(hj b).1 hb with z|z
    ·have:=hge b z;omega
    ·exact⟨_,_,hi,z⟩
   ·exact⟨q,o,h,hb⟩
  ·rcases hob q o hq with⟨rfl,_⟩|⟨_,h⟩
   ·exact h2.lt _ _ hi
   ·exact h2.lt _ _ h
  ·rcases hob q o hq with⟨rfl,rfl⟩|⟨_,h⟩
   ·refine .box fun b o hb=>?_
    unfold FH.join at hb
    cases hx:τ' b with
    |none=>rw[hx]at hb;exact hτ b o hb
    |some o'=>rw[hx]at hb;rw[hin b o' hx];exact hb
   ·exact h2.ob q o h
  ·rcases hob q oq hq with⟨e1,rfl⟩|⟨n1,g1⟩<;>rcases hob k ok hk with⟨e2,rfl⟩|⟨n2,g2⟩
   ·rw[e1,e2]
   ·exfalso
    rcases(hj b).1 hbq with z|z
    ·have:=hge b z;have:=(hs.ob k ok g2).own_lt hbk;omega
    ·exact n2 (h2.ap k i ok _ b g2 hi hbk z)
   ·exfalso
    rcases(hj b).1 hbk with z|z
    ·have:=hge b z;have:=(hs.ob q oq g1).own_lt hbq;omega
    ·exact n1 (h2.ap q i oq _ b g1 hi hbq z)
   ·exact h2.ap q k oq ok b g1 g2 hbq hbk
  ·rcases hob q o hq with⟨rfl,rfl⟩|⟨_,h⟩
   ·rcases(hj b).1 hb with z|z
    ·cases hx:F b with
     |none=>rfl
     |some o'=>have:=(Array.getElem?_eq_some_iff.1 (hf b o' hx)).1;have:=hge b z;omega
    ·exact h2.fr _ _ b hi z
   ·exact h2.fr q o b h hb
inductive Hole:(AV→AV)→Prop
 |here:Hole fun x=>x
 |agg {C:AV→AV} (pre post:List AV) (h:Hole C):Hole fun x=>.agg (pre++C x::post)
 |tup {C:AV→AV} (pre post:List AV) (h:Hole C):Hole fun x=>.tup (pre++C x::post)
theorem J2H {α:Type} (pre post:List α) (x:α) (h:pre.length<(pre++x::post).length):(pre++x::post)[pre.length]=x:=by simp
theorem J7I {α:Type} (pre post:List α) (x y:α) {j:Nat} (hj:j≠pre.length) (h:j<(pre++x::post).length) (h':j<(pre++y::post).length):(pre++x::post)[j]=(pre++y::post)[j]:=by
 rcases Nat.lt_or_ge j pre.length with h1|h1
 ·rw[List.getElem_append_left h1,List.getElem_append_left h1]
 ·rw[List.getElem_append_right h1,List.getElem_append_right h1]
  obtain⟨k,hk⟩:∃k,j-pre.length=k+1:=⟨j-pre.length-1,by omega⟩
  simp only[hk,List.getElem_cons_succ]
end Go.Pm
/- Part of the proof: Pm54. -/
namespace Go.Pm
attribute [local irreducible] AR Ok inBlock andThen endQ aoper
section
variable {X:Cfg} {nt:Nat} {Q:Exit→Env→St→Prop} {K:AV→St→Prop} {env:Env} {σ:St}
theorem Yslh {α:Type} {e:α→List D} {l:List α} {t el:TypeId} {x z:Operand} {n:Int} {ti te:TI} (b:Nat) (r:List α) (hr:l.take b=r) (hK:K (.d (.im (r.map e))) σ)
  (hx:aev X env x=.d (.im (l.map e)):=by exact rfl) (hz:aev X env z=vi n:=by exact rfl) (ht:X.T t=some ti:=by exact rfl) (hk:ti.kind=.slice el:=by exact rfl) (hte:X.T el=some te:=by exact rfl) (hsz:∀u:α,(e u).length=te.size:=by exact fun _=>rfl) (hb:n=(b:Int):=by omega) (hbl:b≤l.length:=by omega):aoper X (.slice t x none (some z) none) env σ Q K:=by
 simp only[aoper,aop,aslice,Option.map_some,Option.map_none,optInt]
 rw[hx,hz]
 refine⟨ti,ht,none,rfl,some n,rfl,?_⟩
 rw[hk]
 subst hb hr
 refine⟨by simp,by simp,by simpa using hbl,⟨te,hte,fun r hr=>?_⟩,?_⟩
 ·obtain⟨u,_,rfl⟩:=List.mem_map.1 hr
  exact hsz u
 ·simpa[List.map_take]using hK
theorem Ysll {α:Type} {e:α→List D} {l:List α} {t el:TypeId} {x y:Operand} {m:Int} {ti te:TI} (a:Nat) (r:List α) (hr:l.drop a=r) (hK:K (.d (.im (r.map e))) σ)
  (hx:aev X env x=.d (.im (l.map e)):=by exact rfl) (hy:aev X env y=vi m:=by exact rfl) (ht:X.T t=some ti:=by exact rfl) (hk:ti.kind=.slice el:=by exact rfl) (hte:X.T el=some te:=by exact rfl) (hsz:∀u:α,(e u).length=te.size:=by exact fun _=>rfl) (ha:m=(a:Int):=by omega) (hal:a≤l.length:=by omega):aoper X (.slice t x (some y) none none) env σ Q K:=by
 simp only[aoper,aop,aslice,Option.map_some,Option.map_none,optInt]
 rw[hx,hy]
 refine⟨ti,ht,some m,rfl,none,rfl,?_⟩
 rw[hk]
 subst ha hr
 refine⟨by simp,by simpa using hal,by simp,⟨te,hte,fun r hr=>?_⟩,?_⟩
 ·obtain⟨u,_,rfl⟩:=List.mem_map.1 hr
  exact hsz u
 ·have e1:List.take (l.length-a) (List.drop a (l.map e))=(l.drop a).map e:=by rw[List.map_drop,List.take_of_length_le (by simp)]
  simpa[e1]using hK
end
end Go.Pm
/- Part of the proof: Pm55. -/
namespace Go.Pm
attribute [local irreducible] AR Ok inBlock andThen endQ aoper
section
variable {X:Cfg} {nt:Nat} {Q:Exit→Env→St→Prop} {K:AV→St→Prop} {env:Env} {σ:St}
end
end Go.Pm
