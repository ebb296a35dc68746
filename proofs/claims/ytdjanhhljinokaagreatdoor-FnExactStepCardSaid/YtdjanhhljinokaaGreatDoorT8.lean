/- Part of the proof: Pm25. -/
import Derived.Test.YtdjanhhljinokaaGreatDoorT7
import Derived.Test.YtdjanhhljinokaaGreatDoorT6
set_option linter.unusedVariables false
set_option linter.unusedSimpArgs false
namespace Go.Pm
attribute [local irreducible] AR Ok inBlock andThen endQ aoper
def plainE:Op→Bool
 |.nilCheck _|.buildSlice _ _ _|.build _ _|.store _ _ _|.alloc _|.box _ _|.makeSlice _ _ _|.mapUpdate _ _ _ _|.slice _ _ _ _ none=>true
 |.call c=>match c.callee with|.value _=>true|.builtin .len=>true|.builtin .append=>true|.builtin .max=>true|.builtin .min=>true|_=>false
 |op=>plainOp op
theorem J58 {X:Cfg} {env env':Env} {σ:St} {K:AV→St→Prop} {b:Builtin} {as:List Operand} {ts:List TypeId} (h:∀x∈as,aev X env x=aev X env' x) (ha:abuiltin X env σ K b as ts):abuiltin X env' σ K b as ts:=by
 unfold abuiltin at ha ⊢
 split at ha
 ·simp only[List.mem_singleton,forall_eq]at h;simp only[←h];exact ha
 ·simp only[List.mem_cons,List.not_mem_nil,or_false,forall_eq_or_imp,forall_eq]at h;simp only[←h.1,←h.2];exact ha
 ·simp only[List.mem_cons,List.not_mem_nil,or_false,forall_eq_or_imp,forall_eq]at h;simp only[←h.1,←h.2];exact ha
 ·simp only[List.mem_cons,List.not_mem_nil,or_false,forall_eq_or_imp,forall_eq]at h;simp only[←h.1,←h.2];exact ha
 ·exact ha.elim
theorem J0h {X:Cfg} {env env':Env} {op:Op} {σ:St} {K:AV→St→Prop} (hp:plainE op=true) (h:∀x∈op.operands.toList,aev X env x=aev X env' x)
  (ha:aoper X op env σ (fun _ _ _=>False) K):aoper X op env' σ (fun _ _ _=>False) K:=by
 have parts:∀ps:Array (Nat×Operand),(∀p∈ps.toList,aev X env p.2=aev X env' p.2)→(ps.toList.map fun p=>(p.1,aev X env p.2))=(ps.toList.map fun p=>(p.1,aev X env' p.2)):=fun ps hh=>List.map_congr_left fun p hpm=>by rw[hh p hpm]
 cases op with
 |nilCheck x=>have e:=h x (by simp[Op.operands]);simp only[aoper,aop]at ha ⊢;rw[←e];exact ha
 |buildSlice t n ps=>
  have e:=parts ps fun p hpm=>h p.2 (by simp only[Op.operands,Array.toList_map];exact List.mem_map.2 ⟨p,hpm,rfl⟩)
  simp only[aoper,aop]at ha ⊢;rw[←e];exact ha
 |build t ps=>
  have e:=parts ps fun p hpm=>h p.2 (by simp only[Op.operands,Array.toList_map];exact List.mem_map.2 ⟨p,hpm,rfl⟩)
  simp only[aoper,aop]at ha ⊢;rw[←e];exact ha
 |store t x y=>have e1:=h x (by simp[Op.operands]);have e2:=h y (by simp[Op.operands]);simp only[aoper,aop]at ha ⊢;rw[←e1,←e2];exact ha
 |alloc e=>simpa only[aoper,aop]using ha
 |box t x=>have e:=h x (by simp[Op.operands]);simp only[aoper,aop]at ha ⊢;rw[←e];exact ha
 |makeSlice t x y=>have e1:=h x (by simp[Op.operands]);have e2:=h y (by simp[Op.operands]);simp only[aoper,aop]at ha ⊢;rw[←e1,←e2];exact ha
 |mapUpdate t x y z=>have e1:=h x (by simp[Op.operands]);have e2:=h y (by simp[Op.operands]);have e3:=h z (by simp[Op.operands]);simp only[aoper,aop]at ha ⊢;rw[←e1,←e2,←e3];exact ha
 |slice t x lo hi m=>
  cases m with
  |some m=>simp[plainE,plainOp]at hp
  |none=>
   have e1:=h x (by simp[Op.operands])
   have e2:lo.map (aev X env)=lo.map (aev X env'):=by cases lo with|none=>rfl|some y=>simp only[Option.map_some];rw[h y (by simp[Op.operands])]
   have e3:hi.map (aev X env)=hi.map (aev X env'):=by cases hi with|none=>rfl|some y=>simp only[Option.map_some];rw[h y (by cases lo<;>simp[Op.operands])]
   simp only[aoper,aop]at ha ⊢;rw[←e1,←e2,←e3];exact ha
 |call c=>
  obtain⟨callee,args,tys⟩:=c
  cases callee with
  |value f=>exact JD (by rfl) h ha
  |builtin b=>
   have e2:∀x∈args.toList,aev X env x=aev X env' x:=fun x hx=>h x (by simp[Op.operands,Call.operands];simpa using hx)
   simp only[aoper]at ha ⊢
   exact J58 e2 ha
  |invoke r m=>simp[plainE]at hp
 |move x=>exact JD (by simpa[plainE]using hp) h ha
 |assign x=>exact JD (by simpa[plainE]using hp) h ha
 |pick c x y=>exact JD (by simpa[plainE]using hp) h ha
 |load t x=>exact JD (by simpa[plainE]using hp) h ha
 |fieldAddr t x f=>exact JD (by simpa[plainE]using hp) h ha
 |field t x f=>exact JD (by simpa[plainE]using hp) h ha
 |indexAddr t x y=>exact JD (by simpa[plainE]using hp) h ha
 |index t x y=>exact JD (by simpa[plainE]using hp) h ha
 |binOp o t x y z=>exact JD (by simpa[plainE]using hp) h ha
 |unOp o t x=>exact JD (by simpa[plainE]using hp) h ha
 |extract x i=>exact JD (by simpa[plainE]using hp) h ha
 |lookup t x y k=>exact JD (by simpa[plainE]using hp) h ha
 |convert s d x=>exact JD (by simpa[plainE]using hp) h ha
 |_=>simp[plainE,plainOp]at hp
def OpAtT (X:Cfg) (nt:Nat) (ops:Array Oper) (T:Nat→Prop) (σ:St) (o:Oper) (env:Env) (r:AV):Prop:=
 o.dst.all (·<nt)=true∧
 match o.guard with
 |none=>∀σ',(∀j,T j→σ'.obj j=σ.obj j)→aoper X o.op env σ' (fun _ _ _=>False) fun v σ2=>σ2=σ'∧v=r
 |some (j,want)=>∃d,(ops[j]?).bind (·.dst)=some d∧d<nt∧
   ((env d=.d (.s (.bool want))∧∀σ',(∀j,T j→σ'.obj j=σ.obj j)→aoper X o.op env σ' (fun _ _ _=>False) fun v σ2=>σ2=σ'∧v=r)∨(env d=.d (.s (.bool (!want)))∧r=.d (.s undef))∨(env d=.d (.s undef)∧r=.d (.s undef)))
inductive LRE (X:Cfg) (nt:Nat) (ops:Array Oper) (T:Nat→Prop) (es:List Nat):Nat→List Oper→Env→St→Env→St→Prop
 |nil (n:Nat) (E:Env) (σ:St):LRE X nt ops T es n [] E σ E σ
 |op {n:Nat} {o:Oper} {rest:List Oper} {env E:Env} {σ σ2:St} {r:AV} (hne:es.contains n=false) (h:OpAtT X nt ops T σ o env r) (k:LRE X nt ops T es (n+1) rest (put env o.dst r) σ E σ2):LRE X nt ops T es n (o::rest) env σ E σ2
 |eff {n:Nat} {o:Oper} {rest:List Oper} {env E:Env} {σ σ1 σ2:St} {r:AV} (he:es.contains n=true) (hd:o.dst.all (·<nt)=true) (hg:o.guard=none) (h:aoper X o.op env σ (fun _ _ _=>False) fun v σ'=>σ'=σ1∧v=r)
   (hT:rest=[]∨∀j,T j→σ1.obj j=σ.obj j) (k:LRE X nt ops T es (n+1) rest (put env o.dst r) σ1 E σ2):LRE X nt ops T es n (o::rest) env σ E σ2
def reachB (ops:Array Oper):Nat→Nat→Nat→Bool
 |0,_,_=>false
 |fuel+1,i,j=>match ops[i]? with
  |none=>false
  |some o=>o.after.any fun e=>Region.binds .any e&&(e.on == j||reachB ops fuel e.on j)
def drawOkE (ops:Array Oper) (es:List Nat):Bool:=
 ((List.range ops.size).all fun i=>match ops[i]? with
  |none=>false
  |some o=>plainE o.op&&o.after.all (fun e=>!Region.binds .any e||decide (e.on<i)) &&
   (List.range ops.size).all fun j=>match (ops[j]?).bind (·.dst)with
    |none=>true
    |some d=>(j == i||o.dst != some d)&&(!(o.looksAt ops).contains d||o.after.any (fun e=>Region.binds .any e&&e.on == j)||(match ops[j]? with|none=>false|some oj=>oj.after.any (fun e=>Region.binds .any e&&e.on == i)))) &&
 (es.all fun a=>es.all fun b=>!decide (b<a)||reachB ops ops.size a b)&&(!es.contains (ops.size-1)||(List.range (ops.size-1)).all fun j=>reachB ops ops.size (ops.size-1) j)
theorem JN {ops:Array Oper} {es:List Nat} (h:drawOkE ops es=true) {i:Nat} {o:Oper} (ho:ops[i]? = some o):plainE o.op=true∧(∀e∈o.after,Region.binds .any e=true→e.on<i)∧
  ∀(j:Nat) (oj:Oper) (d:Nat),ops[j]? = some oj→oj.dst=some d→(j≠i→o.dst≠some d)∧(d∈o.looksAt ops→(∃e∈o.after,Region.binds .any e=true∧e.on=j)∨∃e∈oj.after,Region.binds .any e=true∧e.on=i):=by
 simp only[drawOkE,Bool.and_eq_true]at h
 have hi:i<ops.size:=(Array.getElem?_eq_some_iff.1 ho).1
 have h1:=List.all_eq_true.1 h.1.1 i (List.mem_range.2 hi)
 simp only[ho,Bool.and_eq_true]at h1
 obtain⟨⟨h2,h3⟩,h4⟩:=h1
 refine⟨h2,fun e he hb=>?_,fun j oj d hj hd=>?_⟩
 ·have:=Array.all_eq_true_iff_forall_mem.1 h3 e he
  simpa[hb]using this
 ·have hjs:j<ops.size:=(Array.getElem?_eq_some_iff.1 hj).1
  have:=List.all_eq_true.1 h4 j (List.mem_range.2 hjs)
  simp only[hj,Option.bind_some,hd,Bool.and_eq_true,Bool.or_eq_true,beq_iff_eq,bne_iff_ne,ne_eq,Bool.not_eq_true',List.contains_eq_mem,decide_eq_false_iff_not]at this
  refine⟨fun hne=>this.1.resolve_left hne,fun hm=>?_⟩
  rcases this.2 with(h5|h5)|h5
  ·exact absurd hm h5
  ·obtain⟨k,hk,hb⟩:=Array.any_eq_true.1 h5
   have he:o.after[k]∈o.after:=Array.getElem_mem hk
   generalize o.after[k]=e at he hb
   simp only[Bool.and_eq_true,beq_iff_eq]at hb
   exact .inl ⟨e,he,hb.1,hb.2⟩
  ·obtain⟨k,hk,hb⟩:=Array.any_eq_true.1 h5
   have he:oj.after[k]∈oj.after:=Array.getElem_mem hk
   generalize oj.after[k]=e at he hb
   simp only[Bool.and_eq_true,beq_iff_eq]at hb
   exact .inr ⟨e,he,hb.1,hb.2⟩
theorem J2p {ops:Array Oper} {es:List Nat} (h:drawOkE ops es=true) {a b:Nat} (ha:es.contains a=true) (hb:es.contains b=true) (hlt:b<a):reachB ops ops.size a b=true:=by
 simp only[drawOkE,Bool.and_eq_true]at h
 have:=List.all_eq_true.1 (List.all_eq_true.1 h.1.2 a (by simpa using ha)) b (by simpa using hb)
 simpa[hlt]using this
theorem J35 {ops:Array Oper} {es:List Nat} (h:drawOkE ops es=true) (hl:es.contains (ops.size-1)=true) {j:Nat} (hj:j<ops.size-1):reachB ops ops.size (ops.size-1) j=true:=by
 simp only[drawOkE,Bool.and_eq_true]at h
 have h2:=h.2
 rw[hl]at h2
 exact List.all_eq_true.1 (by simpa using h2) j (List.mem_range.2 hj)
theorem J0S {ops:Array Oper} {P:Nat→Prop} (hcl:∀i o,ops[i]? = some o→P i→∀e∈o.after,Region.binds .any e=true→P e.on):∀(fuel i j:Nat),reachB ops fuel i j=true→P i→P j
 |0,_,_,h,_=>by simp[reachB]at h
 |fuel+1,i,j,h,hi=>by
  simp only[reachB]at h
  split at h
  ·cases h
  ·rename_i o ho
   obtain⟨k,hk,hb⟩:=Array.any_eq_true.1 h
   have he:o.after[k]∈o.after:=Array.getElem_mem hk
   generalize o.after[k]=e at he hb
   simp only[Bool.and_eq_true,Bool.or_eq_true,beq_iff_eq]at hb
   have hp:=hcl i o ho hi e he hb.1
   rcases hb.2 with rfl|hr
   ·exact hp
   ·exact J0S hcl fuel e.on j hr hp
theorem J42 {ops:Array Oper} {P:Nat→Prop} (hcl:∀i o,ops[i]? = some o→P i→∀e∈o.after,Region.binds .any e=true→P e.on) {i:Nat} {o:Oper} (ho:ops[i]? = some o) (hr:∀e∈o.after,Region.binds .any e=true→P e.on):∀(fuel j:Nat),reachB ops fuel i j=true→P j
 |0,_,h=>by simp[reachB]at h
 |fuel+1,j,h=>by
  simp only[reachB,ho]at h
  obtain⟨k,hk,hb⟩:=Array.any_eq_true.1 h
  have he:o.after[k]∈o.after:=Array.getElem_mem hk
  generalize o.after[k]=e at he hb
  simp only[Bool.and_eq_true,Bool.or_eq_true,beq_iff_eq]at hb
  have hp:=hr e he hb.1
  rcases hb.2 with rfl|hr'
  ·exact hp
  ·exact J0S hcl fuel e.on j hr' hp
theorem LRE.facts {X:Cfg} {nt:Nat} {ops:Array Oper} {T:Nat→Prop} {es:List Nat}:∀{n:Nat} {l:List Oper} {env E:Env} {σ σF:St},LRE X nt ops T es n l env σ E σF→
  (∀(i j:Nat) (oi oj:Oper) (d:Nat),i≠j→l[i]? = some oi→l[j]? = some oj→oi.dst=some d→oj.dst≠some d)→
  (∀t,(∀o∈l,o.dst≠some t)→E t=env t)∧
  ∃sv:Nat→St,sv 0=σ∧sv l.length=σF∧(∀k,k<l.length→∀j,T j→(sv k).obj j=σ.obj j)∧(∀k,k<l.length→es.contains (n+k)=false→sv (k+1)=sv k)∧
  ∀(k:Nat) (o:Oper),l[k]? = some o→∃e r,o.dst.all (·<nt)=true∧(es.contains (n+k)=false→OpAtT X nt ops T (sv k) o e r)∧
   (es.contains (n+k)=true→o.guard=none∧aoper X o.op e (sv k) (fun _ _ _=>False) fun v σ'=>σ'=sv (k+1)∧v=r)∧
   (∀d,o.dst=some d→E d=r)∧(∀t,(∀(j:Nat) (oj:Oper),j<k→l[j]? = some oj→oj.dst≠some t)→e t=env t)∧(∀(j:Nat) (oj:Oper) (t:Nat),j<k→l[j]? = some oj→oj.dst=some t→e t=E t)
 |n,[],env,E,σ,σF,h,_=>by
  cases h
  exact⟨fun _ _=>rfl,fun _=>σ,rfl,rfl,fun k hk=>by simp at hk,fun k hk=>by simp at hk,fun k o h=>by simp at h⟩
 |n,o::rest,env,E,σ,σF,h,hd=>by
  -- the first operation gives r and the state σ1
  obtain⟨r,σ1,hdst,hop,heff,hT,hsame,hrun⟩:∃r σ1,o.dst.all (·<nt)=true∧(es.contains n=false→OpAtT X nt ops T σ o env r)∧(es.contains n=true→o.guard=none∧aoper X o.op env σ (fun _ _ _=>False) fun v σ'=>σ'=σ1∧v=r)∧
    (rest=[]∨∀j,T j→σ1.obj j=σ.obj j)∧(es.contains n=false→σ1=σ)∧LRE X nt ops T es (n+1) rest (put env o.dst r) σ1 E σF:=by
   cases h with
   |op hne h k=>exact⟨_,σ,h.1,fun _=>h,(fun he=>by rw[hne]at he;cases he),.inr fun _ _=>rfl,fun _=>rfl,k⟩
   |eff he hd hg h hT k=>exact⟨_,_,hd,(fun hne=>by rw[hne]at he;cases he),fun _=>⟨hg,h⟩,hT,(fun hne=>by rw[hne]at he;cases he),k⟩
  obtain⟨h1,sv,hs0,hsF,hsT,hsk,h2⟩:=hrun.facts fun i j oi oj d hij hi hj=>hd (i+1) (j+1) oi oj d (by omega) (by simpa using hi) (by simpa using hj)
  have hfst:∀d,o.dst=some d→E d=r:=by
   intro d hod
   rw[h1 d fun o' ho'=>?_]
   ·simp[put,hod]
   ·obtain⟨j,hj⟩:=List.getElem?_of_mem ho'
    exact hd 0 (j+1) o o' d (by omega) (by simp) (by simpa using hj) hod
  have hput:∀t,o.dst≠some t→put env o.dst r t=env t:=by
   intro t ht
   cases hod:o.dst with
   |none=>rfl
   |some d=>simp only[put];rw[if_neg (by intro e;subst e;exact ht hod)]
  refine⟨fun t ht=>?_,fun k=>match k with|0=>σ|k+1=>sv k,rfl,by simpa using hsF,fun k hk j hj=>?_,fun k hk hne=>?_,fun k' o' hk'=>?_⟩
  ·rw[h1 t fun o' ho'=>ht o' (by simp[ho'])]
   exact hput t (ht o (by simp))
  ·cases k with
   |zero=>rfl
   |succ k=>
    show(sv k).obj j=_
    have hk2:k<rest.length:=by simpa using hk
    rcases hT with hT|hT
    ·rw[hT]at hk2;simp at hk2
    ·rw[hsT k hk2 j hj,hT j hj]
  ·cases k with
   |zero=>show sv 0=σ;rw[hs0];exact hsame (by simpa using hne)
   |succ k=>exact hsk k (by simpa using hk) (by rw[show n+1+k=n+(k+1) by omega];exact hne)
  ·cases k' with
   |zero=>
    simp only[List.getElem?_cons_zero,Option.some.injEq]at hk'
    subst hk'
    exact⟨env,r,hdst,fun hne=>hop (by simpa using hne),fun he=>by
     obtain⟨hg,ha⟩:=heff (by simpa using he)
     refine⟨hg,?_⟩
     show aoper X o.op env σ _ fun v σ'=>σ'=sv 0∧v=r
     rw[hs0];exact ha,hfst,fun _ _=>rfl,fun j oj t hj=>by omega⟩
   |succ k'=>
    obtain⟨e,r',a0,a1,a1',a2,a3,a4⟩:=h2 k' o' (by simpa using hk')
    refine⟨e,r',a0,fun hne=>a1 (by rw[show n+1+k'=n+(k'+1) by omega];exact hne),fun he=>a1' (by rw[show n+1+k'=n+(k'+1) by omega];exact he),a2,fun t ht=>?_,fun j oj t hj hoj hot=>?_⟩
    ·rw[a3 t fun j oj hj hoj=>ht (j+1) oj (by omega) (by simpa using hoj)]
     exact hput t (ht 0 o (by omega) (by simp))
    ·cases j with
     |zero=>
      simp only[List.getElem?_cons_zero,Option.some.injEq]at hoj
      subst hoj
      have hno:∀o''∈rest,o''.dst≠some t:=fun o'' ho''=>by
       obtain⟨j,hj⟩:=List.getElem?_of_mem ho''
       exact hd 0 (j+1) o o'' t (by omega) (by simp) (by simpa using hj) hot
      rw[a3 t (fun j oj _ hoj=>hno oj (List.mem_of_getElem? hoj)),h1 t hno]
     |succ j=>exact a4 j oj t (by omega) (by simpa using hoj) hot
theorem J5j {ops:Array Oper} {es:List Nat} (h:drawOkE ops es=true) {listed:Array Bool} (hl:listed.size=ops.size) (hr:Region.ready .any ops listed=[]):∀i,i<ops.size→listed.getD i true=true:=by
 intro i
 induction i using Nat.strongRecOn with
 |_ i ih=>
  intro hi
  cases hc:listed.getD i true with
  |true=>rfl
  |false=>
   exfalso
   have:i∈Region.ready .any ops listed:=by
    simp only[Region.ready,List.mem_filter,List.mem_range,hi,true_and,hc,Bool.not_false,Bool.true_and,Array.getElem?_eq_getElem,Option.map_some,Option.getD_some]
    refine Array.all_eq_true_iff_forall_mem.2 fun e he=>?_
    cases hb:Region.binds .any e with
    |false=>rfl
    |true=>
     have hlt:=(JN h (i:=i) (o:=ops[i]) (by simp[hi])).2.1 e he hb
     have:=ih e.on hlt (by omega)
     simp only[Bool.not_true,Bool.false_or]
     have hsz:e.on<listed.size:=by omega
     simpa[Array.getD,hsz]using this
   rw[hr]at this
   cases this
def ADE (X:Cfg) (nt:Nat) (ops:Array Oper) (T:Nat→Prop) (es:List Nat) (Q:Exit→Env→St→Prop) (n:Nat) (rest:List Oper) (env:Env) (σ:St):Prop:=∃E σF,LRE X nt ops T es n rest env σ E σF∧Q .normal E σF
theorem Jv {X:Cfg} {nt id:Nat} {ops:Array Oper} {Q:Exit→Env→St→Prop} {env:Env} {σ:St} (T:Nat→Prop) (es:List Nat) (hm:X.P.follows .mixedOrders=true) (hc:drawOkE ops es=true) (h:ADE X nt ops T es Q 0 ops.toList env σ):
  Ok X nt (.region id ops true) Q env σ:=by
 unfold Ok
 intro F0 η0 a0 w0 hg0 hr0
 obtain⟨E,σF,hlr,hQ⟩:=h
 obtain⟨hbase,sv,hsv0,hsvF,hsvT,hsvk,hfacts⟩:=hlr.facts fun i j oi oj d hij hi hj hdi hdj=>by
  simp only[Array.getElem?_toList]at hi hj
  exact((JN hc hi).2.2 j oj d hj hdj).1 (Ne.symm hij) hdi
 refine wp_region_any hm ?_
 have hsvle:∀a b,a≤b→b≤ops.size→(∀q,a≤q→q<b→es.contains q=false)→sv b=sv a:=by
  intro a b hab
  induction b with
  |zero=>
   intro _ _;have:a=0:=by omega
   subst this;rfl
  |succ b ih=>
   intro hb hno
   by_cases hab':a=b+1
   ·subst hab';rfl
   ·rw[hsvk b (by simp;omega) (by simpa using hno b (by omega) (by omega)),ih (by omega) (by omega) (fun q h1 h2=>hno q h1 (by omega))]
 have key:∀(fuel:Nat) (listed:Array Bool) (cur:Env) (F:FH) (η:Et) (a:Act) (w:World),listed.size=ops.size→(fuel=0→∀i,i<ops.size→listed.getD i true=true)→
   (∀i,i<ops.size→listed.getD i true=false→True)→((List.range ops.size).filter (fun i=>!listed.getD i true)).length≤fuel→
   ∀m:Nat,m≤ops.size→(∀q,es.contains q=true→q<ops.size→(listed.getD q false=true↔q<m))→Step F0 η0 σ w0 F η (sv m) w→GRel X F→Rel F η nt cur (sv m) a w→
   (∀t,(∀i o,ops[i]? = some o→listed.getD i true=true→o.dst≠some t)→cur t=env t)→(∀i o,ops[i]? = some o→listed.getD i true=true→∀e∈o.after,Region.binds .any e=true→listed.getD e.on false=true)→(∀i o t,ops[i]? = some o→listed.getD i true=true→o.dst=some t→cur t=E t)→
   wpAny X.P .any ops (Post X nt F0 η0 σ w0 Q) fuel listed a w:=by
  intro fuel
  induction fuel with
  |zero=>
   intro listed cur F η a w hls h0 _ hlen m hmle hml hs hg hr hb hcl hl
   have hall:=h0 rfl
   have hE:cur=E:=by
    funext t
    by_cases ht:∀o∈ops.toList,o.dst≠some t
    ·rw[hb t (fun i o hi _=>ht o (by simpa using Array.mem_of_getElem? hi)),hbase t ht]
    ·have ⟨o,ho,hot⟩:∃o,o∈ops.toList∧o.dst=some t:=by
      apply Classical.byContradiction
      intro hno
      exact ht fun o ho hot=>hno ⟨o,ho,hot⟩
     obtain⟨i,hi⟩:=List.getElem?_of_mem ho
     simp only[Array.getElem?_toList]at hi
     exact hl i o t hi (hall i (Array.getElem?_eq_some_iff.1 hi).1) hot
   subst hE
   have hmF:sv m=σF:=by
    rw[←hsvF,Array.length_toList]
    refine(hsvle m ops.size hmle (Nat.le_refl _) fun q h1 h2=>?_).symm
    cases hqe:es.contains q with
    |false=>rfl
    |true=>
     have h3:=(hml q hqe h2).1 (by have:=hall q h2;simpa[Array.getD,show q<listed.size by omega]using this)
     omega
   rw[hmF]at hs hr
   refine⟨?_,⟨F,η,cur,σF,hs,hg,hr,hQ⟩⟩
   cases hrd:Region.ready .any ops listed with
   |nil=>rfl
   |cons i rest=>
    obtain⟨h1,h2,_⟩:=J0F (ops:=ops) (listed:=listed) (i:=i) (by rw[hrd];simp)
    rw[hall i h1]at h2;cases h2
  |succ fuel ih=>
   intro listed cur F η a w hls h0 _ hlen m hmle hml hs hg hr hb hcl hl
   refine⟨fun hnil=>?_,fun i hi=>?_⟩
   ·have hall:=J5j hc hls hnil
    have hE:cur=E:=by
     funext t
     by_cases ht:∀o∈ops.toList,o.dst≠some t
     ·rw[hb t (fun i o hi _=>ht o (by simpa using Array.mem_of_getElem? hi)),hbase t ht]
     ·have ⟨o,ho,hot⟩:∃o,o∈ops.toList∧o.dst=some t:=by
       apply Classical.byContradiction
       intro hno
       exact ht fun o ho hot=>hno ⟨o,ho,hot⟩
      obtain⟨i,hi⟩:=List.getElem?_of_mem ho
      simp only[Array.getElem?_toList]at hi
      exact hl i o t hi (hall i (Array.getElem?_eq_some_iff.1 hi).1) hot
    subst hE
    have hmF:sv m=σF:=by
     rw[←hsvF,Array.length_toList]
     refine(hsvle m ops.size hmle (Nat.le_refl _) fun q h1 h2=>?_).symm
     cases hqe:es.contains q with
     |false=>rfl
     |true=>
      have h3:=(hml q hqe h2).1 (by have:=hall q h2;simpa[Array.getD,show q<listed.size by omega]using this)
      omega
    rw[hmF]at hs hr
    exact⟨F,η,cur,σF,hs,hg,hr,hQ⟩
   ·obtain⟨hin,hun,o,ho,hdep⟩:=J0F hi
    obtain⟨hpl,hbef,hlook⟩:=JN hc ho
    obtain⟨e,r,hdst,hatp,hate,hEr,hebase,hedone⟩:=hfacts i o (by simpa using ho)
    rw[Nat.zero_add]at hatp hate
    have hlooks:∀t∈o.looksAt ops,e t=cur t:=by
     intro t ht
     by_cases hw:∀o∈ops.toList,o.dst≠some t
     ·rw[hebase t (fun j oj _ hoj=>hw oj (List.mem_of_getElem? hoj)),hb t (fun i o hi _=>hw o (by simpa using Array.mem_of_getElem? hi))]
     ·have ⟨oj,hoj,hot⟩:∃o,o∈ops.toList∧o.dst=some t:=by
       apply Classical.byContradiction
       intro hno
       exact hw fun o ho hot=>hno ⟨o,ho,hot⟩
      obtain⟨j,hj⟩:=List.getElem?_of_mem hoj
      simp only[Array.getElem?_toList]at hj
      rcases(hlook j oj t hj hot).2 ht with⟨ed,hed,hbd,hon⟩|⟨ed,hed,hbd,hon⟩
      ·have hlt:=hbef ed hed hbd
       have hjl:=hdep ed hed hbd
       rw[hon]at hlt hjl
       rw[hedone j oj t hlt (by simpa using hj) hot]
       refine(hl j oj t hj ?_ hot).symm
       have hjs:j<listed.size:=by rw[hls];exact(Array.getElem?_eq_some_iff.1 hj).1
       simpa[Array.getD,hjs]using hjl
      ·have hlt:=(JN hc hj).2.1 ed hed hbd
       rw[hon]at hlt
       have hone:∀(j':Nat) (oj':Oper),ops[j']? = some oj'→oj'.dst=some t→j'=j:=fun j' oj' hj' hot'=>
        Classical.byContradiction fun hne=>((JN hc hj').2.2 j oj t hj hot).1 (Ne.symm hne) hot'
       have hju:¬listed.getD j true=true:=fun hjl=>by
        have h6:=hcl j oj hj hjl ed hed hbd
        rw[hon]at h6
        have hil:i<listed.size:=by omega
        simp only[Array.getD,hil,dif_pos]at h6 hun
        rw[h6]at hun;cases hun
       rw[hebase t (fun j' oj' hj'k hoj' hot'=>by have:=hone j' oj' (by simpa using hoj') hot';omega),hb t (fun j' oj' hoj' hjl hot'=>by have:=hone j' oj' hoj' hot';subst this;exact hju hjl)]
    have hops:∀x∈o.op.operands.toList,aev X e x=aev X cur x:=by
     intro x hx
     refine J3C fun t ht=>hlooks t ?_
     subst ht
     simp only[Oper.looksAt,List.mem_append,List.mem_filterMap]
     exact .inl ⟨_,hx,rfl⟩
    have hset0:∀k,(listed.setIfInBounds i true).getD k false=if k=i then true else listed.getD k false:=by
     intro k
     simp only[Array.getD_eq_getD_getElem?,Array.getElem?_setIfInBounds]
     by_cases hki:k=i
     ·subst hki;simp[hls,hin]
     ·rw[if_neg (Ne.symm hki),if_neg hki]
    have hget:∀k,listed.getD k false=true→listed.getD k true=true:=by
     intro k hk
     simp only[Array.getD_eq_getD_getElem?]at hk ⊢
     cases hq:listed[k]? with
     |none=>rw[hq]at hk;simp at hk
     |some b=>rw[hq]at hk;simpa using hk
    have hiu:¬listed.getD i false=true:=fun h=>by have:=hget i h;rw[hun]at this;cases this
    have hclP:∀k ok,ops[k]? = some ok→listed.getD k false=true→∀e∈ok.after,Region.binds .any e=true→listed.getD e.on false=true:=fun k ok hk hl=>hcl k ok hk (hget k hl)
    -- once the operation is done
    have next:∀(F':FH) (η':Et) (v:Value) (w':World) (m':Nat),m'≤ops.size→(∀q,es.contains q=true→q<ops.size→((listed.setIfInBounds i true).getD q false=true↔q<m'))→Step F η (sv m) w F' η' (sv m') w'→GRel X F'→Rel F' η' nt cur (sv m') a w'→VRel F' η' (sv m').next r v→
      wpAny X.P .any ops (Post X nt F0 η0 σ w0 Q) fuel (listed.setIfInBounds i true) (a.put o.dst v) w':=by
     intro F' η' v w' m' hm' hml' s1 g1 r1 hv
     have hset:∀k,(listed.setIfInBounds i true).getD k true=if k=i then true else listed.getD k true:=by
      intro k
      simp only[Array.getD_eq_getD_getElem?,Array.getElem?_setIfInBounds]
      by_cases hki:k=i
      ·subst hki;simp[hls,hin]
      ·rw[if_neg (Ne.symm hki),if_neg hki]
     have hfewer:((List.range ops.size).filter (fun k=>!(listed.setIfInBounds i true).getD k true)).length<((List.range ops.size).filter (fun k=>!listed.getD k true)).length:=by
      have hsub:(List.range ops.size).filter (fun k=>!(listed.setIfInBounds i true).getD k true)=((List.range ops.size).filter (fun k=>!listed.getD k true)).filter (fun k=>k != i):=by
       rw[List.filter_filter]
       refine List.filter_congr fun k _=>?_
       rw[hset k]
       by_cases hki:k=i
       ·simp[hki]
       ·simp[hki]
      rw[hsub]
      refine List.length_filter_lt_length_iff_exists.2 ⟨i,?_,by simp⟩
      simp only[List.mem_filter,List.mem_range,Bool.not_eq_true']
      exact⟨hin,hun⟩
     refine ih _ (put cur o.dst r) F' η' _ w' (by simp[hls]) ?_ (fun _ _ _=>trivial) (by omega) m' hm' hml' (hs.trans s1) g1 (r1.put hdst hv) ?_ ?_ ?_
     ·intro hf k hk
      subst hf
      rw[hset k]
      by_cases hki:k=i
      ·rw[if_pos hki]
      ·rw[if_neg hki]
       cases hck:listed.getD k true with
       |true=>rfl
       |false=>
        exfalso
        have hkm:k∈(List.range ops.size).filter (fun k=>!(listed.setIfInBounds i true).getD k true):=by
         simp only[List.mem_filter,List.mem_range,Bool.not_eq_true',hset k,if_neg hki]
         exact⟨hk,hck⟩
        have:=List.length_pos_of_mem hkm
        omega
     ·intro t ht
      have hne:=ht i o ho (by rw[hset i,if_pos rfl])
      have hb':=hb t (fun i' o' hi' hl'=>ht i' o' hi' (by rw[hset i'];split<;>first|rfl|exact hl'))
      cases hod:o.dst with
      |none=>exact hb'
      |some d=>simp only[put];rw[if_neg (by intro e;subst e;exact hne hod)];exact hb'
     ·intro k ok hk hkl e he hbe
      have hold:listed.getD e.on false=true:=by
       by_cases hki:k=i
       ·subst hki
        rw[ho]at hk
        cases hk
        exact hdep e he hbe
       ·rw[hset k,if_neg hki]at hkl
        exact hcl k ok hk hkl e he hbe
      simp only[Array.getD_eq_getD_getElem?,Array.getElem?_setIfInBounds]at hold ⊢
      by_cases hei:i=e.on
      ·subst hei;simp[hls,hin]
      ·rw[if_neg hei];exact hold
     ·intro k ok t hk hkl hkt
      by_cases hki:k=i
      ·subst hki
       rw[ho]at hk
       simp only[Option.some.injEq]at hk
       subst hk
       rw[hkt]
       simp only[put,if_true]
       exact(hEr t hkt).symm
      ·rw[hset k,if_neg hki]at hkl
       have hne:o.dst≠some t:=((JN hc ho).2.2 k ok t hk hkt).1 hki
       have:put cur o.dst r t=cur t:=by
        cases hod:o.dst with
        |none=>rfl
        |some d=>simp only[put];rw[if_neg (by intro e;subst e;exact hne hod)]
       rw[this]
       exact hl k ok t hk hkl hkt
    unfold wpOp
    simp only[ho]
    cases hes:es.contains i with
    |false=>
     have hml2:∀q,es.contains q=true→q<ops.size→((listed.setIfInBounds i true).getD q false=true↔q<m):=by
      intro q hq hqs
      have hqi:q≠i:=fun h=>by subst h;rw[hes]at hq;cases hq
      rw[hset0 q,if_neg hqi]
      exact hml q hq hqs
     have hmT:∀j,T j→(sv m).obj j=σ.obj j:=by
      rcases Nat.lt_or_ge m ops.size with h|h
      ·exact hsvT m (by simpa using h)
      ·have hme:m=ops.size:=by omega
       cases hlast:es.contains (ops.size-1)with
       |false=>
        have h1:=hsvk (ops.size-1) (by simp;omega) (by simpa using hlast)
        rw[show ops.size-1+1=m by omega]at h1
        rw[h1]
        exact hsvT _ (by simp;omega)
       |true=>
        exfalso
        have hli:=(hml (ops.size-1) hlast (by omega)).2 (by omega)
        rcases Nat.lt_or_ge i (ops.size-1)with h2|h2
        ·exact hiu (J0S (P:=fun k=>listed.getD k false=true) hclP _ _ i (J35 hc hlast h2) hli)
        ·have:i=ops.size-1:=by omega
         rw[←this]at hli;exact hiu hli
     have hag:∀j,T j→(sv m).obj j=(sv i).obj j:=fun j hj=>by rw[hmT j hj,hsvT i (by simpa using hin) j hj]
     have done:(aoper X o.op cur (sv m) (fun _ _ _=>False) fun v σ'=>σ'=sv m∧v=r)→o.wp X.P a w (wpAny X.P .any ops (Post X nt F0 η0 σ w0 Q) fuel (listed.setIfInBounds i true)) (Post X nt F0 η0 σ w0 Q):=by
      intro hop
      refine J0Z hg hr hdst hop ?_ ?_
      ·rintro F' η' x v σ' w' s1 g1 r1 hv ⟨rfl,rfl⟩
       exact next F' η' v w' m hmle hml2 s1 g1 r1 hv
      ·intro ch F' η' σ' w' _ _ _ hf
       exact hf.elim
     have skip:r=.d (.s undef)→wpAny X.P .any ops (Post X nt F0 η0 σ w0 Q) fuel (listed.setIfInBounds i true) (a.put o.dst undef) w:=by
      intro hru
      exact next F η undef w m hmle hml2 (.refl _ _ _ _) hg hr (by rw[hru];exact .d (.s _))
     obtain⟨_,hat'⟩:=hatp hes
     cases hgd:o.guard with
     |none=>
      simp only[hgd]at hat'
      rw[if_pos (by simp[Region.wanted,hgd])]
      exact .inl (done (J0h hpl hops (hat' (sv m) hag)))
     |some jw=>
      obtain⟨j,want⟩:=jw
      simp only[hgd]at hat'
      obtain⟨d,hjd,hdn,hat'⟩:=hat'
      have hed:e d=cur d:=hlooks d (by simp only[Oper.looksAt,hgd,hjd,List.mem_append];right;simp)
      rw[hed]at hat'
      rcases hat' with⟨h1,h2⟩|⟨h1,h2⟩|⟨h1,h2⟩
      ·obtain⟨hy1,hy2⟩:=JV hr hjd hdn h1
       have hy:yielded ops a.tmps j=some want:=by unfold yielded;rw[hy1,Option.bind_some,hy2]
       rw[if_pos (by simp[Region.wanted,hgd,hy])]
       exact .inl (done (J0h hpl hops (h2 (sv m) hag)))
      ·obtain⟨hy1,hy2⟩:=JV hr hjd hdn h1
       have hy:yielded ops a.tmps j=some (!want):=by unfold yielded;rw[hy1,Option.bind_some,hy2]
       rw[if_neg (by simp[Region.wanted,hgd,hy])]
       exact skip h2
      ·obtain⟨hy1,hy2⟩:=JV hr hjd hdn h1
       have hy:yielded ops a.tmps j=none:=by unfold yielded;rw[hy1,Option.bind_some,hy2];rfl
       rw[if_neg (by simp[Region.wanted,hgd,hy])]
       exact skip h2
    |true=>
     obtain⟨hgd,hop⟩:=hate hes
     have hmi:m≤i:=by
      rcases Nat.lt_or_ge i m with h|h
      ·exact absurd ((hml i hes hin).2 h) hiu
      ·exact h
     have hbefore:∀q,es.contains q=true→q<i→q<m:=by
      intro q hq hqi
      refine(hml q hq (by omega)).1 ?_
      exact J42 (P:=fun k=>listed.getD k false=true) hclP ho hdep _ q (J2p hc hes hq hqi)
     have hsvm:sv m=sv i:=by
      refine(hsvle m i hmi (by omega) fun q h1 h2=>?_).symm
      cases hqe:es.contains q with
      |false=>rfl
      |true=>have:=hbefore q hqe h2;omega
     have hml2:∀q,es.contains q=true→q<ops.size→((listed.setIfInBounds i true).getD q false=true↔q<i+1):=by
      intro q hq hqs
      rw[hset0 q]
      by_cases hqi:q=i
      ·subst hqi;simp
      ·rw[if_neg hqi,hml q hq hqs]
       constructor
       ·intro h;omega
       ·intro h;exact hbefore q hq (by omega)
     rw[if_pos (by simp[Region.wanted,hgd])]
     refine .inl (J0Z hg hr hdst (by rw[hsvm];exact J0h hpl hops hop) ?_ ?_)
     ·rintro F' η' x v σ' w' s1 g1 r1 hv ⟨rfl,rfl⟩
      exact next F' η' v w' (i+1) (by omega) hml2 s1 g1 r1 hv
     ·intro ch F' η' σ' w' _ _ _ hf
      exact hf.elim
 refine key ops.size _ env F0 η0 a0 _ (by simp) ?_ (fun _ _ _=>trivial) ?_ 0 (Nat.zero_le _) ?_ (by rw[hsv0];exact Step.drew) hg0 (by rw[hsv0];exact⟨hr0.fr.drew,hr0.st.drew,hr0.en,hr0.sz,hr0.df⟩) (fun _ _=>rfl) ?_ ?_
 ·intro h0 i hi;omega
 ·exact Nat.le_trans (List.length_filter_le _ _) (by simp)
 ·intro q _ hq
  simp[Array.getD,hq]
 ·intro i o hi hl
  have his:=(Array.getElem?_eq_some_iff.1 hi).1
  simp[Array.getD,his]at hl
 ·intro i o t hi hl
  have his:=(Array.getElem?_eq_some_iff.1 hi).1
  simp[Array.getD,his]at hl
end Go.Pm
/- Part of the proof: Pm26. -/
namespace Go.Pm
attribute [local irreducible] AR Ok inBlock andThen endQ aoper
section
variable {X:Cfg} {nt:Nat} {ops:Array Oper} {T:Nat→Prop} {es:List Nat} {n:Nat} {rest:List Oper} {Q:Exit→Env→St→Prop} {env:Env} {σ σ':St} {dst:Option Tmp} {op:Op} {ty:TypeId} {pos:String} {after:Array Edge} {r:AV}
theorem Wx {K':Env→St→Prop} (h:K' env σ):ADE X nt ops T es (andThen K' Q) n [] env σ:=⟨env,σ,.nil n env σ,J3 h⟩
theorem Wy (h:Q .normal env σ):ADE X nt ops T es Q n [] env σ:=⟨env,σ,.nil n env σ,h⟩
theorem J1X {o:Oper} (h:OpAtT X nt ops T σ o env r) (k:ADE X nt ops T es Q (n+1) rest (put env o.dst r) σ) (hne:es.contains n=false):ADE X nt ops T es Q n (o::rest) env σ:=by
 obtain⟨E,σF,h1,h2⟩:=k
 exact⟨E,σF,.op hne h h1,h2⟩
theorem Wa (k:ADE X nt ops T es Q (n+1) rest (put env dst r) σ) (hs:∀σ',astep X env σ' op=some (r,σ'):=by intro _;exact rfl) (hd:dst.all (·<nt)=true:=by exact rfl) (hne:es.contains n=false:=by exact rfl):ADE X nt ops T es Q n (⟨dst,op,ty,pos,after,none⟩::rest) env σ:=
 J1X (o:=⟨dst,op,ty,pos,after,none⟩) ⟨hd,fun σ' _=>J2k (hs σ') ⟨rfl,rfl⟩⟩ k hne
theorem Wn {x:Operand} (k:ADE X nt ops T es Q (n+1) rest (put env dst r) σ) (ha:anil (aev X env x)=true:=by exact rfl) (hr:(aev X env x).force=some r:=by exact rfl) (hd:dst.all (·<nt)=true:=by exact rfl) (hne:es.contains n=false:=by exact rfl):ADE X nt ops T es Q n (⟨dst,.nilCheck x,ty,pos,after,none⟩::rest) env σ:=
 J1X (o:=⟨dst,.nilCheck x,ty,pos,after,none⟩) ⟨hd,fun σ' _=>by simp only[aoper,aop];exact⟨ha,trivial,JL hr⟩⟩ k hne
theorem Wl {p:Operand} {i off t:Nat} {cells:List AV} {ti:TI} (ho:σ.obj i=some (.var cells)) (hT:T i) (k:ADE X nt ops T es Q (n+1) rest (put env dst r) σ) (hp:aev X env p=.ref i off:=by exact rfl) (ht:X.T t=some ti:=by exact rfl)
  (hc:pieceF (isAggK ti.kind) cells off ti.size=some r:=by exact rfl) (hd:dst.all (·<nt)=true:=by exact rfl) (hne:es.contains n=false:=by exact rfl):ADE X nt ops T es Q n (⟨dst,.load t p,ty,pos,after,none⟩::rest) env σ:=
 J1X (o:=⟨dst,.load t p,ty,pos,after,none⟩) ⟨hd,fun σ' hag=>by
  simp only[aoper,aop,aload]
  exact⟨ti,ht,(cells,off),by simp only[hp,behind,hag i hT,ho],r,J0C hc,trivial,rfl⟩⟩ k hne
theorem We (h:aoper X op env σ (fun _ _ _=>False) fun v σ2=>σ2=σ'∧v=r) (hT:rest=[]∨∀j,T j→σ'.obj j=σ.obj j) (k:ADE X nt ops T es Q (n+1) rest (put env dst r) σ') (hd:dst.all (·<nt)=true:=by exact rfl) (he:es.contains n=true:=by exact rfl):
  ADE X nt ops T es Q n (⟨dst,op,ty,pos,after,none⟩::rest) env σ:=by
 obtain⟨E,σF,h1,h2⟩:=k
 exact⟨E,σF,.eff (o:=⟨dst,op,ty,pos,after,none⟩) he hd rfl h hT h1,h2⟩
end
section
variable {X:Cfg} {nt:Nat} {Q:Exit→Env→St→Prop} {K:AV→St→Prop} {env:Env} {σ σ':St} {r:AV}
theorem Ju {x:Operand} (k:K r σ) (ha:anil (aev X env x)=true:=by exact rfl) (hr:(aev X env x).force=some r:=by exact rfl):aoper X (.nilCheck x) env σ Q K:=by
 simp only[aoper,aop]
 refine⟨ha,?_⟩
 rw[JL hr];exact k
theorem Ys {p:Operand} {i off t:Nat} {cells:List AV} {ti:TI} (ho:σ.obj i=some (.var cells)) (hK:K r σ) (hp:aev X env p=.ref i off:=by exact rfl) (ht:X.T t=some ti:=by exact rfl) (hc:pieceF (isAggK ti.kind) cells off ti.size=some r:=by exact rfl):aoper X (.load t p) env σ Q K:=by
 simp only[aoper,aop,aload]
 exact⟨ti,ht,(cells,off),by simp only[hp,behind,ho],r,J0C hc,hK⟩
theorem Yt {p x:Operand} {i off t:Nat} {cells cs m:List AV} {ti:TI} (ho:σ.obj i=some (.var cells)) (hK:K (.d (.s undef)) (σ.set i (.var m))) (hp:aev X env p=.ref i off:=by exact rfl) (ht:X.T t=some ti:=by exact rfl) (hx:cellsF (aev X env x)=some cs:=by exact rfl)
  (h1:(decide (cs.length=ti.size)&&cs.all AV.one)=true:=by exact rfl) (hm:spliceF cells off cs=some m:=by exact rfl):aoper X (.store t p x) env σ Q K:=by
 simp only[aoper,aop,astore]
 simp only[Bool.and_eq_true,decide_eq_true_eq]at h1
 obtain⟨h3,h4⟩:=J15 hm
 refine⟨ti,ht,cs,J12 hx,h1.1,h1.2,?_⟩
 simp only[hp]
 exact⟨cells,ho,by rw[←h1.1];exact h4,by rw[h3];exact hK⟩
theorem Yu {e i:Nat} {ti:TI} {cs:List AV} (hK:K (.ref i 0) (σ.alloc (.var cs))) (ht:X.T e=some ti:=by exact rfl) (hc:listF (zrow ti)=some cs:=by exact rfl) (hi:σ.next=i:=by exact rfl):aoper X (.alloc e) env σ Q K:=by
 subst hi
 have hc:=J1q hc
 subst hc
 simp only[aoper,aop,aalloc]
 exact⟨ti,ht,hK⟩
theorem Yv {e i:Nat} {x:Operand} {cs:List AV} (hK:K (.ref i 0) (σ.alloc (.var cs))) (hc:cellsF (aev X env x)=some cs:=by exact rfl) (h1:cs.all AV.one=true:=by exact rfl) (hi:σ.next=i:=by exact rfl):aoper X (.box e x) env σ Q K:=by
 subst hi
 simp only[aoper,aop,abox]
 exact⟨cs,J12 hc,h1,hK⟩
theorem Yw {t len n sz:Nat} {ps:Array (Nat×Operand)} {ti te:TI} {e:Nat} {rows:List (List AV)} (h:K (.sl n n 0 len) (σ.alloc (.row n e sz rows))) (ht:X.T t=some ti:=by exact rfl) (hk:ti.kind=.slice e:=by exact rfl) (hte:X.T e=some te:=by exact rfl) (hsz:te.size=sz:=by exact rfl) (hp:Nat.blt 0 sz=true:=by exact rfl)
  (hb:Nat.ble (len*sz) 16777216=true:=by exact rfl) (hr:fillRows sz (List.replicate len (zrow te)) (ps.toList.map fun p=>(p.1,aev X env p.2))=some rows:=by exact rfl) (hn:σ.next=n:=by exact rfl):aoper X (.buildSlice t len ps) env σ Q K:=by
 subst hn
 subst hsz
 simp only[aoper,aop,abuildSlice]
 exact⟨ti,ht,e,te,hk,hte,Je hp,Nat.le_of_ble_eq_true hb,rows,hr,h⟩
def slcN (i h n:Nat):AV:=if n=0 then .d (.s (.slice none 0 0))else .sl i h 0 n
theorem J1v {i h n:Nat} (hn:n≠0):slcN i h n=.sl i h 0 n:=if_neg hn
theorem J5B (i h:Nat):slcN i h 0=.d (.s (.slice none 0 0)):=rfl
theorem app1 {α:Type} {f:α→List AV} {l:List α} {y:α} {i h k v t tx el sz:Nat} {ti te tix:TI} {s x:Operand} {as:Array Operand} {ts:Array TypeId} (ho:l≠[]→σ.obj i=some (.row h el sz (l.map f))) (hk:σ.obj k=some (.row v el sz [f y])) (hf:∀z,(f z).length=sz)
  (hK:∀i' σ',i'=(if l=[]then σ.next else i)→σ'.obj i'=some (.row σ.next el sz ((l++[y]).map f))→(∀j,j≠i'→σ'.obj j=σ.obj j)→σ'.next=σ.next+1→K (.sl i' σ.next 0 (l.length+1)) σ')
  (h1:as.toList=[s,x]:=by exact rfl) (h2:ts.toList=[t,tx]:=by exact rfl) (hs:aev X env s=slcN i h l.length:=by exact rfl) (hx:aev X env x=.sl k v 0 1:=by exact rfl) (ht:X.T t=some ti:=by exact rfl) (hkd:ti.kind=.slice el:=by exact rfl) (hte:X.T el=some te:=by exact rfl) (hsz:te.size=sz:=by exact rfl) (hp:Nat.blt 0 sz=true:=by exact rfl)
  (hpb:Nat.blt 0 te.bytes=true:=by exact rfl) (htx:X.T tx=some tix:=by exact rfl) (hkx:tix.kind=.slice el:=by exact rfl) (hbb:Nat.ble te.bytes 1024=true:=by exact rfl) (hb:l.length≤2097152:=by omega):aoper X (.call ⟨.builtin .append,as,ts⟩) env σ Q K:=by
 subst hsz
 have hb:(l.length+1)*te.bytes≤140737488355328:=Nat.le_trans (Nat.mul_le_mul (show l.length+1≤2097153 by omega) (Nat.le_of_ble_eq_true hbb)) (by decide)
 simp only[aoper,h1,h2,abuiltin,aappend]
 refine⟨ti,ht,el,te,hkd,hte,Je hp,Je hpb,tix,htx,[f y],?_,?_,?_⟩
 ·rw[hkx,hx];simp[srcOf,rowsOf,hk]
 ·intro r hr
  simp only[List.mem_singleton]at hr
  subst hr;exact hf y
 ·rw[hs]
  by_cases hl:l=[]
  ·subst hl
   simp only[List.length_nil,J5B,List.length_singleton]
   refine⟨by simpa using hb,hK σ.next (σ.alloc (.row σ.next el te.size [f y])) (by simp) (by simp[St.alloc]) (fun j hj=>by simp[St.alloc,hj]) rfl⟩
  ·have hn:l.length≠0:=fun h=>hl (List.eq_nil_of_length_eq_zero h)
   simp only[J1v hn,List.length_singleton]
   refine⟨trivial,_,ho hl,by simp,hb,hK i (bumpSet σ i _) (by simp[hl]) ?_ (fun j hj=>by simp[bumpSet,hj]) rfl⟩
   simp[bumpSet,List.take_of_length_le]
def slcB (b:Bool) (i h n:Nat):AV:=if b then .sl i h 0 n else .d (.s (.slice none 0 0))
theorem Yx2 {b:Bool} {i h n:Nat} {x:Operand} {t el:Nat} {ti:TI} {as:Array Operand} {ts:Array TypeId} (hn:b=false→n=0) (hK:K (vi n) σ) (h1:as.toList=[x]:=by exact rfl) (h2:ts.toList=[t]:=by exact rfl) (hx:aev X env x=slcB b i h n:=by exact rfl) (ht:X.T t=some ti:=by exact rfl) (hk':ti.kind=.slice el:=by exact rfl):aoper X (.call ⟨.builtin .len,as,ts⟩) env σ Q K:=by
 simp only[aoper,h1,h2,abuiltin,alen]
 refine⟨ti,ht,?_⟩
 simp only[hk',hx]
 cases b with
 |false=>have:=hn rfl;subst this;exact hK
 |true=>exact hK
theorem app2 {α:Type} {f:α→List AV} {l:List α} {y:α} {b:Bool} {rows:List (List AV)} {i h k v t tx el sz n:Nat} {ti te tix:TI} {s x:Operand} {as:Array Operand} {ts:Array TypeId} (hl:b=false→l=[]) (hn:n=l.length) (ho:b=true→σ.obj i=some (.row h el sz rows)∧rows.take n=l.map f∧n≤rows.length) (hk:σ.obj k=some (.row v el sz [f y])) (hf:∀z,(f z).length=sz)
  (hK:∀i' σ',i'=(if b then i else σ.next)→σ'.obj i'=some (.row σ.next el sz ((l++[y]).map f))→(∀j,j≠i'→σ'.obj j=σ.obj j)→σ'.next=σ.next+1→K (.sl i' σ.next 0 (n+1)) σ')
  (h1:as.toList=[s,x]:=by exact rfl) (h2:ts.toList=[t,tx]:=by exact rfl) (hs:aev X env s=slcB b i h n:=by exact rfl) (hx:aev X env x=.sl k v 0 1:=by exact rfl) (ht:X.T t=some ti:=by exact rfl) (hkd:ti.kind=.slice el:=by exact rfl) (hte:X.T el=some te:=by exact rfl) (hsz:te.size=sz:=by exact rfl) (hp:Nat.blt 0 sz=true:=by exact rfl)
  (hpb:Nat.blt 0 te.bytes=true:=by exact rfl) (htx:X.T tx=some tix:=by exact rfl) (hkx:tix.kind=.slice el:=by exact rfl) (hbb:Nat.ble te.bytes 1024=true:=by exact rfl) (hb:n≤2097152:=by omega):aoper X (.call ⟨.builtin .append,as,ts⟩) env σ Q K:=by
 subst hsz
 have hb:(n+1)*te.bytes≤140737488355328:=Nat.le_trans (Nat.mul_le_mul (show n+1≤2097153 by omega) (Nat.le_of_ble_eq_true hbb)) (by decide)
 simp only[aoper,h1,h2,abuiltin,aappend]
 refine⟨ti,ht,el,te,hkd,hte,Je hp,Je hpb,tix,htx,[f y],?_,?_,?_⟩
 ·rw[hkx,hx];simp[srcOf,rowsOf,hk]
 ·intro r hr
  simp only[List.mem_singleton]at hr
  subst hr;exact hf y
 ·rw[hs]
  cases b with
  |false=>
   have:=hl rfl
   subst this
   simp only[List.length_nil]at hn
   subst hn
   simp only[slcB,Bool.false_eq_true,if_false,List.length_singleton]
   refine⟨by simpa using hb,hK σ.next (σ.alloc (.row σ.next el te.size [f y])) (by simp) (by simp[St.alloc]) (fun j hj=>by simp[St.alloc,hj]) rfl⟩
  |true=>
   obtain⟨o1,o2,o3⟩:=ho rfl
   simp only[slcB,if_true,List.length_singleton]
   refine⟨trivial,_,o1,o3,hb,hK i (bumpSet σ i _) (by simp) ?_ (fun j hj=>by simp[bumpSet,hj]) rfl⟩
   simp[bumpSet,o2]
theorem Yz {x y:Operand} {t i v hi e sz:Nat} {n:Int} {ti te:TI} {rows:List (List AV)} (k:Nat) (ho:σ.obj i=some (.row v e sz rows)) (hn:n=(k:Int)) (hle:k≤hi) (hK:K (.sl i v 0 k) σ) (hx:aev X env x=.sl i v 0 hi:=by exact rfl) (hy:aev X env y=vi n:=by exact rfl) (ht:X.T t=some ti:=by exact rfl) (hk:ti.kind=.slice e:=by exact rfl)
  (hte:X.T e=some te:=by exact rfl) (hsz:te.size=sz:=by exact rfl):aoper X (.slice t x none (some y) none) env σ Q K:=by
 subst hn
 subst hsz
 simp only[aoper,aop,aslice,Option.map_none,Option.map_some]
 refine⟨ti,ht,none,rfl,some (k:Int),by rw[hy];rfl,?_⟩
 simp only[hk,hx,Option.getD_none,Option.getD_some,Nat.sub_zero,Int.toNat_zero,Nat.add_zero,Int.toNat_natCast,Nat.zero_add]
 exact⟨Int.le_refl _,Int.natCast_nonneg _,by omega,⟨te,rows,hte,ho⟩,hK⟩
def appS (σ:St) (b:Bool) (i:Nat) (o:AO):St:=if b then σ.alloc o else bumpSet σ i o
theorem J6c {σ:St} {b:Bool} {i:Nat} {o:AO}:(appS σ b i o).obj (if b then σ.next else i)=some o:=by cases b<;>simp[appS,St.alloc,bumpSet]
theorem J2h {σ:St} {b:Bool} {i j:Nat} {o:AO} (h:j≠(if b then σ.next else i)):(appS σ b i o).obj j=σ.obj j:=by
 cases b
 ·have h:j≠i:=h
  simp[appS,bumpSet,h]
 ·have h:j≠σ.next:=h
  simp[appS,St.alloc,h]
theorem J0Y {σ:St} {b:Bool} {i:Nat} {o:AO}:(appS σ b i o).next=σ.next+1:=by cases b<;>rfl
theorem app1d {α:Type} {f:α→List AV} {l:List α} {y:α} {i h k v t tx el sz:Nat} {ti te tix:TI} {s x:Operand} {as:Array Operand} {ts:Array TypeId} (ho:l≠[]→σ.obj i=some (.row h el sz (l.map f))) (hk:σ.obj k=some (.row v el sz [f y])) (hf:∀z,(f z).length=sz)
  (hK:K (.sl (if l.isEmpty then σ.next else i) σ.next 0 (l.length+1)) (appS σ l.isEmpty i (.row σ.next el sz ((l++[y]).map f))))
  (h1:as.toList=[s,x]:=by exact rfl) (h2:ts.toList=[t,tx]:=by exact rfl) (hs:aev X env s=slcN i h l.length:=by exact rfl) (hx:aev X env x=.sl k v 0 1:=by exact rfl) (ht:X.T t=some ti:=by exact rfl) (hkd:ti.kind=.slice el:=by exact rfl) (hte:X.T el=some te:=by exact rfl) (hsz:te.size=sz:=by exact rfl) (hp:Nat.blt 0 sz=true:=by exact rfl)
  (hpb:Nat.blt 0 te.bytes=true:=by exact rfl) (htx:X.T tx=some tix:=by exact rfl) (hkx:tix.kind=.slice el:=by exact rfl) (hbb:Nat.ble te.bytes 1024=true:=by exact rfl) (hb:l.length≤2097152:=by omega):aoper X (.call ⟨.builtin .append,as,ts⟩) env σ Q K:=by
 subst hsz
 have hb:(l.length+1)*te.bytes≤140737488355328:=Nat.le_trans (Nat.mul_le_mul (show l.length+1≤2097153 by omega) (Nat.le_of_ble_eq_true hbb)) (by decide)
 simp only[aoper,h1,h2,abuiltin,aappend]
 refine⟨ti,ht,el,te,hkd,hte,Je hp,Je hpb,tix,htx,[f y],?_,?_,?_⟩
 ·rw[hkx,hx];simp[srcOf,rowsOf,hk]
 ·intro r hr
  simp only[List.mem_singleton]at hr
  subst hr;exact hf y
 ·rw[hs]
  cases l with
  |nil=>
   simp only[List.length_nil,J5B,List.length_singleton]
   exact⟨by simpa using hb,hK⟩
  |cons z l=>
   simp only[List.length_cons,J1v (Nat.succ_ne_zero _),List.length_singleton]
   refine⟨trivial,_,ho (by simp),by simp,by simpa using hb,?_⟩
   have e1:List.take (l.length+1) (List.map f (z::l))++[f y]=((z::l)++[y]).map f:=by rw[List.take_of_length_le (by simp)];simp
   rw[e1]
   exact hK
theorem J8A {k:FuncId} {args caps:List AV} {KK:AEnd→St→Prop} {as:Array Operand} {ts:Array TypeId} {f:Operand} (h:AFun X k args σ KK) (hk:∀E σ',KK E σ'→∃r,E=.ret r∧K r σ') (hf:aev X env f=.fn k caps:=by exact rfl) (ha:as.toList.map (aev X env)++caps=args:=by exact rfl):aoper X (.call ⟨.value f,as,ts⟩) env σ Q K:=by
 subst ha
 simp only[aoper,hf,acallee,acall]
 refine h.mono fun E σ' h'=>?_
 obtain⟨r,rfl,h2⟩:=hk E σ' h'
 exact h2
theorem Yr {p:Operand} {i off t:Nat} {cells:List AV} {ti:TI} (ho:σ.obj i=some (.var cells)) (hK:K r σ) (hp:aev X env p=.ref i off:=by exact rfl) (ht:X.T t=some ti:=by exact rfl) (hc:piece (isAggK ti.kind) cells off ti.size=some r:=by exact rfl):aoper X (.load t p) env σ Q K:=by
 simp only[aoper,aop,aload]
 exact⟨ti,ht,(cells,off),by simp only[hp,behind,ho],r,hc,hK⟩
theorem ret0 {K:AEnd→St→Prop} (h:K (.ret (.tup [])) σ):endQ X #[].toList K .ret env σ:=by unfold endQ;exact h
theorem nrm0 {K:AEnd→St→Prop} (h:K (.ret (.tup [])) σ):endQ X #[].toList K .normal env σ:=by unfold endQ;exact h
theorem ret2 {s t:Nat} {K:AEnd→St→Prop} {x y:AV} (h:K (.ret (.tup [x,y])) σ) (hx:(env s).force=some x:=by exact rfl) (hy:(env t).force=some y:=by exact rfl):endQ X #[.tmp s,.tmp t].toList K .ret env σ:=by
 rw[←JL hx,←JL hy]at h
 unfold endQ;exact h
theorem Yi1 {t i v hi el sz:Nat} {n:Int} {ti te:TI} {rows:List (List AV)} {x y:Operand} (k:Nat) (ho:σ.obj i=some (.row v el sz rows)) (hn:n=(k:Int)) (hlt:k<hi) (h:K (.ep i v k 0) σ) (hx:aev X env x=.sl i v 0 hi:=by exact rfl) (hy:aev X env y=vi n:=by exact rfl) (ht:X.T t=some ti:=by exact rfl) (hk:ti.kind=.slice el:=by exact rfl)
  (hte:X.T el=some te:=by exact rfl) (hsz:te.size=sz:=by exact rfl):aoper X (.indexAddr t x y) env σ Q K:=by
 subst hn
 subst hsz
 exact Jy hx hy hlt ht hk hte ho h
theorem Ye1 {cells:List AV} {rows:List (List AV)} {p:Operand} {i v k el sz t:Nat} {ti:TI} (ho:σ.obj i=some (.row v el sz rows)) (hr:rows[k]? = some cells) (hK:K r σ) (hp:aev X env p=.ep i v k 0:=by exact rfl) (ht:X.T t=some ti:=by exact rfl)
  (hc:pieceF (isAggK ti.kind) cells 0 ti.size=some r:=by exact rfl):aoper X (.load t p) env σ Q K:=Ye hr hK hp ho ht hc
end
section
variable {X:Cfg} {nt:Nat} {ops:Array Oper} {T:Nat→Prop} {es:List Nat} {n:Nat} {rest:List Oper} {Q:Exit→Env→St→Prop} {env:Env} {σ σ':St} {dst:Option Tmp} {op:Op} {ty:TypeId} {pos:String} {after:Array Edge} {r:AV}
theorem Wr {p:Operand} {i off t:Nat} {cells:List AV} {ti:TI} (ho:σ.obj i=some (.var cells)) (hT:T i) (k:ADE X nt ops T es Q (n+1) rest (put env dst r) σ) (hp:aev X env p=.ref i off:=by exact rfl) (ht:X.T t=some ti:=by exact rfl)
  (hc:piece (isAggK ti.kind) cells off ti.size=some r:=by exact rfl) (hd:dst.all (·<nt)=true:=by exact rfl) (hne:es.contains n=false:=by exact rfl):ADE X nt ops T es Q n (⟨dst,.load t p,ty,pos,after,none⟩::rest) env σ:=
 J1X (o:=⟨dst,.load t p,ty,pos,after,none⟩) ⟨hd,fun σ' hag=>by
  simp only[aoper,aop,aload]
  exact⟨ti,ht,(cells,off),by simp only[hp,behind,hag i hT,ho],r,hc,trivial,rfl⟩⟩ k hne
end
end Go.Pm
/- Part of the proof: Pm27. -/
namespace Go.Pm
attribute [local irreducible] AR Ok inBlock andThen endQ aoper
theorem AFun.same {X:Cfg} {f:FuncId} {args:List AV} {σ:St} {r:AV} (h:AFun X f args σ fun E σ'=>E=.ret r∧σ'.next=σ.next∧∀j,j<σ.next→σ'.obj j=σ.obj j):AFun X f args σ fun E σ'=>E=.ret r∧σ'=σ:=by
 refine⟨h.1,fun F η w vals hg hf hs hn hv=>(h.2 F η w vals hg hf hs hn hv).mono ?_⟩
 rintro e w' ⟨F',η',σ1,E,st,hf',hs1,he,rfl,hnx,hob⟩
 have hle:∀j o,σ.obj j=some o→σ1.obj j=some o:=fun j o hj=>by rw[hob j (hs.lt j o hj)];exact hj
 refine⟨F',η',σ,_,⟨st.fh,st.et,Nat.le_refl _,st.gr,st.fm,fun i o b ho=>st.nw i o b (hle i o ho),st.nf⟩,hf',⟨hs.lt,fun i o ho=>by rw[←hnx];exact hs1.ob i o (hle i o ho),fun i j oi oj b hi hj=>hs1.ap i j oi oj b (hle i oi hi) (hle j oj hj),fun i o b ho=>hs1.fr i o b (hle i o ho)⟩,?_,rfl,rfl⟩
 rw[hnx]at he;exact he
theorem AFun.low' {X:Cfg} {f:FuncId} {args:List AV} {σ:St} {K K':AEnd→St→Prop} (h:AFun X f args σ K)
  (hk:∀E σ1,K E σ1→σ.next≤σ1.next→∃σ2,K' E σ2∧σ.next≤σ2.next∧σ2.next≤σ1.next∧(∀i o,σ2.obj i=some o→i<σ2.next∧σ1.obj i=some o∧o.low σ2.next)∧(∀r,E=.ret r→Pm.low σ2.next r=true)):AFun X f args σ K':=by
 refine⟨h.1,fun F η w vals hg hf hs hn hv=>(h.2 F η w vals hg hf hs hn hv).mono ?_⟩
 rintro e w' ⟨F',η',σ1,E,st,hf',hs1,he,hK⟩
 obtain⟨σ2,h1,h2,h3,h4,h6⟩:=hk E σ1 hK st.nx
 refine⟨F',η',σ2,E,⟨st.fh,st.et,h2,st.gr,st.fm,fun i o b ho=>st.nw i o b (h4 i o ho).2.1,st.nf⟩,hf',⟨fun i o ho=>(h4 i o ho).1,fun i o ho=>J1V (hs1.ob i o (h4 i o ho).2.1) (h4 i o ho).2.2,fun i j oi oj b hi hj=>hs1.ap i j oi oj b (h4 i oi hi).2.1 (h4 j oj hj).2.1,fun i o b ho=>hs1.fr i o b (h4 i o ho).2.1⟩,?_,h1⟩
 cases E with
 |ret r=>
  cases e with
  |returned v=>exact J0H he (h6 r rfl)
  |panicked c=>exact he.elim
  |outgrown=>exact he.elim
 |pan c=>
  cases e with
  |returned v=>exact he.elim
  |panicked c'=>exact he
  |outgrown=>exact he.elim
mutual
theorem J4e {n:Nat} {π ρ:Nat→Nat} (h:∀j,j<n→ρ j=π j):∀x:AV,low n x=true→ren ρ x=ren π x
 |.d x,_=>rfl
 |.agg cs,hl=>by simp only[low]at hl;simp only[ren,J1w h cs hl]
 |.tup cs,hl=>by simp only[low]at hl;simp only[ren,J1w h cs hl]
 |.ref i off,hl=>by simp only[low,decide_eq_true_eq]at hl;simp only[ren,h i hl]
 |.sl i v lo hi,hl=>by simp only[low,Bool.and_eq_true,decide_eq_true_eq]at hl;simp only[ren,h i hl.1,h v hl.2]
 |.ep i v k off,hl=>by simp only[low,Bool.and_eq_true,decide_eq_true_eq]at hl;simp only[ren,h i hl.1,h v hl.2]
 |.mp i,hl=>by simp only[low,decide_eq_true_eq]at hl;simp only[ren,h i hl]
 |.it i,hl=>by simp only[low,decide_eq_true_eq]at hl;simp only[ren,h i hl]
 |.fn f caps,hl=>by simp only[low]at hl;simp only[ren,J1w h caps hl]
 |.ifc t x,hl=>by simp only[low]at hl;simp only[ren,J4e h x hl]
 |.any,_=>rfl
theorem J1w {n:Nat} {π ρ:Nat→Nat} (h:∀j,j<n→ρ j=π j):∀cs:List AV,lows n cs=true→rens ρ cs=rens π cs
 |[],_=>rfl
 |c::cs,hl=>by simp only[lows,Bool.and_eq_true]at hl;simp only[rens,J4e h c hl.1,J1w h cs hl.2]
end
theorem Jar {n:Nat} {π ρ:Nat→Nat} (h:∀j,j<n→ρ j=π j) {o:AO} (hl:o.low n):renO ρ o=renO π o:=by
 cases o with
 |var cells=>simp only[renO,J1w h cells hl]
 |row v E sz rows=>
  simp only[renO,h v hl.1]
  congr 1
  exact List.map_congr_left fun r hr=>J1w h r (hl.2 r hr)
 |map k es=>
  simp only[renO]
  congr 1
  exact List.map_congr_left fun e he=>by rw[J4e h e.2 (hl e he)]
 |iter o=>rfl
 |box o=>rfl
theorem AFun.ro {X:Cfg} {f:FuncId} {args:List AV} {r:AV} {O:List (Option AO)} (h:AFun X f args (stL O) fun E σ'=>E=.ret r∧∀j,j<O.length→σ'.obj j=(stL O).obj j) (hO:∀(j:Nat) (o:AO),(O[j]?).join=some o→o.low O.length) (ha:lows O.length args=true) (hr:Pm.low O.length r=true) (π:Nat→Nat)
  (hi:∀(i j:Nat) (o o':AO),(O[i]?).join=some o→(O[j]?).join=some o'→π i=π j→i=j) {σ:St} (hlt:∀j,j<O.length→π j<σ.next) (hob:∀(j:Nat) (o:AO),(O[j]?).join=some o→σ.obj (π j)=some (renO π o)):
  AFun X f (rens π args) σ fun E σ'=>E=.ret (ren π r)∧σ'=σ:=by
 have hlen:∀j o,(O[j]?).join=some o→j<O.length:=fun j o hj=>by
  rcases Nat.lt_or_ge j O.length with h|h
  ·exact h
  ·rw[List.getElem?_eq_none h]at hj;cases hj
 have h1:AFun X f args (stL O) fun E σ'=>E=.ret r∧σ'=stL O:=h.low' fun E σ1 ⟨he,hj⟩ hnx=>⟨stL O,⟨he,rfl⟩,Nat.le_refl _,hnx,fun i o ho=>⟨hlen i o ho,by rw[hj i (hlen i o ho)];exact ho,hO i o ho⟩,fun r' hr'=>by rw[he]at hr';cases hr';exact hr⟩
 let κ:Nat→Option Nat:=fun i=>(List.range O.length).find? fun j=>(π j == i)&&((O[j]?).join).isSome
 have hk2:∀i j,κ i=some j→(π j=i∧∃o,(O[j]?).join=some o)∧j<O.length:=by
  intro i j hj
  have a1:=List.find?_some hj
  have a2:=List.mem_range.1 (List.mem_of_find?_eq_some hj)
  simp only[Bool.and_eq_true,beq_iff_eq]at a1
  exact⟨⟨a1.1,Option.isSome_iff_exists.1 a1.2⟩,a2⟩
 have hk1:∀j o,(O[j]?).join=some o→κ (π j)=some j:=by
  intro j o hj
  cases hq:κ (π j)with
  |none=>
   have:=List.find?_eq_none.1 hq j (List.mem_range.2 (hlen j o hj))
   simp[hj]at this
  |some j'=>
   obtain⟨⟨a1,o',a2⟩,_⟩:=hk2 _ _ hq
   rw[hi j' j o' o a2 hj a1]
 refine AFun.same ((AFun.frame h1 π κ hlt hlen (fun j o hj=>⟨hob j o hj,hO j o hj⟩) hk1 (fun i j hj=>⟨(hk2 i j hj).1.1,(hk2 i j hj).2⟩) ha).mono ?_)
 rintro E σ' ⟨E0,σ1,⟨rfl,rfl⟩,rfl,rfl⟩
 have hext:∀j,j<O.length→ext (stL O).next σ.next π j=π j:=fun j hj=>if_pos hj
 refine⟨by simp only[renE];rw[J4e hext r hr],(by show σ.next+((stL O).next-(stL O).next)=σ.next;omega),fun j hj=>?_⟩
 simp only[mrg,hj,if_true]
 cases hq:κ j with
 |none=>rfl
 |some k=>
  obtain⟨⟨a1,o,a2⟩,_⟩:=hk2 j k hq
  have a3:(stL O).obj k=some o:=a2
  simp only[a3,Option.map_some]
  rw[Jar hext (hO k o a2),←a1,hob k o a2]
theorem Wc {X:Cfg} {nt:Nat} {ops:Array Oper} {T:Nat→Prop} {es:List Nat} {n:Nat} {rest:List Oper} {Q:Exit→Env→St→Prop} {env:Env} {σ:St} {dst:Option Tmp} {ty:TypeId} {pos:String} {after:Array Edge} {r:AV} {k:FuncId} {args caps:List AV} {ars:Array Operand} {ts:Array TypeId} {f:Operand}
  (h:∀σ',(∀j,T j→σ'.obj j=σ.obj j)→AFun X k args σ' fun E σ2=>E=.ret r∧σ2=σ') (kk:ADE X nt ops T es Q (n+1) rest (put env dst r) σ) (hf:aev X env f=.fn k caps:=by exact rfl) (ha:ars.toList.map (aev X env)++caps=args:=by exact rfl)
  (hd:dst.all (·<nt)=true:=by exact rfl) (hne:es.contains n=false:=by exact rfl):ADE X nt ops T es Q n (⟨dst,.call ⟨.value f,ars,ts⟩,ty,pos,after,none⟩::rest) env σ:=
 J1X (o:=⟨dst,.call ⟨.value f,ars,ts⟩,ty,pos,after,none⟩) ⟨hd,fun σ' hag=>Yp (h σ' hag) ⟨rfl,rfl⟩ hf ha⟩ kk hne
end Go.Pm
/- Part of the proof: Dm. -/
namespace Go.Pm
structure Slt where
 name:ByteArray
 type:Int
structure Sm where
 kind:Int
 name:ByteArray
 pos:Int
 outs:List ByteArray
 code:List Itm
 args:List (List Itm)
structure Cls where
 name:ByteArray
 ins:List Slt
 outs:List Slt
 locs:List ByteArray
 mems:List Int
 insts:List Int
 body:List Sm
def eNum (n:Int):List D:=[.s (.int .i64 n)]
def eSlt (x:Slt):List D:=[.s (.string x.name),.s (.int .i64 x.type)]
def eSm (x:Sm):List D:=[.s (.int .i64 x.kind),.s (.string x.name),.s (.int .i64 x.pos),.im (x.outs.map eStr),.im (x.code.map eItm),.im (x.args.map eItms)]
def eCls (x:Cls):List D:=[.s (.string x.name),.im (x.ins.map eSlt),.im (x.outs.map eSlt),.im (x.locs.map eStr),.im (x.mems.map eNum),.im (x.insts.map eNum),.im (x.body.map eSm)]
def wNum0 (_:Int):Nat:=0
theorem J3u:∀l:List Int,(l.map wNum0).sum=0
 |[]=>rfl
 |x::l=>by simp only[List.map_cons,List.sum_cons,J3u l,wNum0]
def wSlt (x:Slt):Nat:=x.name.size
def wSm (x:Sm):Nat:=x.name.size+wL wStr x.outs+wL wItm x.code+wL (wL wItm) x.args
def wCls (x:Cls):Nat:=x.name.size+wL wSlt x.ins+wL wSlt x.outs+wL wStr x.locs+wL wNum0 x.mems+wL wNum0 x.insts+wL wSm x.body
def dNums (l:List Int):Prop:=l.length≤mx
def dSlt (x:Slt):Prop:=x.name.size≤mx
def dSm (x:Sm):Prop:=x.name.size≤mx∧dL dStr x.outs∧dL dItm x.code∧dL (dL dItm) x.args
def dCls (x:Cls):Prop:=x.name.size≤mx∧dL dSlt x.ins∧dL dSlt x.outs∧dL dStr x.locs∧dNums x.mems∧dNums x.insts∧dL dSm x.body
end Go.Pm
/- Part of the proof: En7. -/
namespace Go.Pm
open Go.ChangeShapes Go.WideShapes
variable {H:Type} {enc:TypeId×Value→H} {P:Program}
theorem Jaj {α:Type} {W:World} {t el:TypeId} {e:α→D} {ok:α→Prop} {v:Value} {d:DataW H} {ps:List MemPlace} {base0:Nat} (ht:P.underlying t=some (.slice el)) (hval:Value.okWide P W .any base0 t v)
  (hE:Rd enc P W 0 (fun _=>true) true t (fun y=>[e y]) ok) (h:DataW.Trod enc P W 0 (fun _=>true) true t v d ps):∃y,ok y∧∀η n,VRel (FW W) η n (.d (e y)) v:=by
 obtain⟨a,l,c,rfl⟩:=okWide_slice ht hval
 obtain⟨fuel,hf⟩:=h
 obtain⟨y,h1,h2,h3⟩:=hE fuel _ _ hf
 exact⟨y,h1,fun η n=>.d (by simpa[Value.cells]using (h3 0 (by simp)).1)⟩
end Go.Pm
