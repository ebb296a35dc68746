/- Part of the proof: Pm15. -/
import Derived.Test.YtdjanhhljinokaaGreatDoorT6
import Derived.Orders
import GoSem.ClaimChange
set_option linter.unusedVariables false
set_option linter.unusedSimpArgs false
namespace Go.Pm
attribute [local irreducible] AR Ok inBlock andThen endQ aoper
def bs (s:ByteArray):List UInt8:=s.data.toList
theorem J04 (s:ByteArray):(bs s).length=s.size:=by simp[bs]
theorem Jc4 (s:ByteArray) (k:Nat):s[k]? = (bs s)[k]?:=by
 simp only[bs,Array.getElem?_toList]
 rfl
theorem Jc6 {s t:ByteArray} (h:bs s=bs t):s=t:=by
 cases s;cases t;simp only[bs]at h;congr;exact Array.toList_inj.1 h
section regs
variable {X:Cfg} {nt:Nat} {ops:Array Oper} {rest:List Oper} {Q:Exit→Env→St→Prop} {K:AV→St→Prop} {env:Env} {σ σ':St} {dst:Option Tmp} {op:Op} {ty:TypeId} {pos:String} {after:Array Edge} {j d:Nat} {b want:Bool} {r:AV}
theorem J1a {s:ByteArray} {k:Nat} {n:Int} {ti:TI} {t:TypeId} {x i:Operand} {y:UInt8} (hx:aev X env x=vs s) (hi:aev X env i=vi n) (hl:(bs s)[k]? = some y) (hn:n=(k:Int))
  (ht:X.T t=some ti) (hk':ti.kind=.string) (hk:K (.d (.s (.int .u8 y.toNat))) σ):aoper X (.index t x i) env σ Q K:=
 by
 subst hn
 simp only[aoper,aop,aindex]
 refine⟨k,⟨_,hi⟩,Int.natCast_nonneg k,ti,ht,?_⟩
 simp only[hk',hx]
 exact⟨y,by rw[Int.toNat_natCast,Jc4];exact hl,hk⟩
def wordMap (ks:List ByteArray):List (Value×D):=ks.map fun s=>(.string s,.s (.bool true))
def hasWord (ks:List ByteArray) (s:ByteArray):Bool:=ks.any fun k=>decide (s=k)
theorem J3r (s:ByteArray):∀ks:List ByteArray,afind ((wordMap ks).map fun e=>(e.1,AV.d e.2)) (.string s)=if hasWord ks s then some (.d (.s (.bool true)))else none
 |[]=>rfl
 |k::ks=>by
  have ih:=J3r s ks
  simp only[wordMap,List.map_cons,afind,keyEq]at ih ⊢
  by_cases h:s=k
  ·simp[h,hasWord]
  ·simp only[h,decide_false,ih,hasWord,List.any_cons,Bool.false_or];rfl
theorem J88 {ks:List ByteArray} {s:ByteArray} {m k:Operand} {t:TypeId} (hm:aev X env m=.d (.mp .string (wordMap ks))) (hk:aev X env k=vs s) {ti tk te:TI} {kt et:TypeId} (h1:X.T t=some ti) (h2:ti.kind=.map kt et)
  (h3:X.T kt=some tk) (h4:X.T et=some te) (h5:tk.kind=.string) (h6:azero te=vb false) (hk':K (vb (hasWord ks s)) σ):aoper X (.lookup t m k false) env σ Q K:=by
 simp only[aoper,aop,alookup]
 refine⟨ti,h1,kt,et,h2,tk,te,h3,h4,.string s,hk,by rw[h5];rfl,by rw[hm,h5];rfl,_,by rw[hm];rfl,?_⟩
 rw[J3r]
 cases hw:hasWord ks s with
 |true=>rw[hw]at hk';exact hk'
 |false=>rw[hw]at hk';show K (azero te) σ;rw[h6];exact hk'
end regs
end Go.Pm
/- Part of the proof: Pm16. -/
namespace Go.Pm
attribute [local irreducible] AR Ok inBlock andThen endQ aoper
def plainOp:Op→Bool
 |.move _|.assign _|.pick _ _ _|.load _ _|.fieldAddr _ _ _|.field _ _ _|.indexAddr _ _ _|.index _ _ _|.binOp _ _ _ _ _|.unOp _ _ _|.extract _ _|.lookup _ _ _ _|.convert _ _ _|.slice _ _ _ _ none=>true
 |.call c=>match c.callee with|.value _=>true|.builtin .len=>true|_=>false
 |_=>false
def OpAt (X:Cfg) (nt:Nat) (ops:Array Oper) (σ:St) (o:Oper) (env:Env) (r:AV):Prop:=
 o.dst.all (·<nt)=true∧
 match o.guard with
 |none=>aoper X o.op env σ (fun _ _ _=>False) fun v σ'=>σ'=σ∧v=r
 |some (j,want)=>∃d,(ops[j]?).bind (·.dst)=some d∧d<nt∧
   ((env d=.d (.s (.bool want))∧aoper X o.op env σ (fun _ _ _=>False) fun v σ'=>σ'=σ∧v=r)∨(env d=.d (.s (.bool (!want)))∧r=.d (.s undef))∨(env d=.d (.s undef)∧r=.d (.s undef)))
inductive LR (X:Cfg) (nt:Nat) (ops:Array Oper) (σ:St):List Oper→Env→Env→Prop
 |nil (E:Env):LR X nt ops σ [] E E
 |op {o:Oper} {rest:List Oper} {env E:Env} {r:AV} (h:OpAt X nt ops σ o env r) (k:LR X nt ops σ rest (put env o.dst r) E):LR X nt ops σ (o::rest) env E
def AD (X:Cfg) (nt:Nat) (ops:Array Oper) (Q:Exit→Env→St→Prop) (σ:St) (rest:List Oper) (env:Env):Prop:=∃E,LR X nt ops σ rest env E∧Q .normal E σ
def drawOk (ops:Array Oper):Bool:=
 (List.range ops.size).all fun i=>match ops[i]? with
  |none=>false
  |some o=>plainOp o.op&&o.after.all (fun e=>!Region.binds .any e||decide (e.on<i)) &&
   (List.range ops.size).all fun j=>match (ops[j]?).bind (·.dst)with
    |none=>true
    |some d=>(j == i||o.dst != some d)&&(!(o.looksAt ops).contains d||o.after.any (fun e=>Region.binds .any e&&e.on == j)||(match ops[j]? with|none=>false|some oj=>oj.after.any (fun e=>Region.binds .any e&&e.on == i)))
section congr
variable {X:Cfg} {env env':Env}
theorem J3b {x:Operand} (h:∀t,x=.tmp t→env t=env' t):aev X env x=aev X env' x:=by
 cases x with
 |tmp t=>exact h t rfl
 |const v=>rfl
 |global g=>rfl
 |func f=>rfl
theorem JA {op:Op} {σ:St} {K:AV→St→Prop} (hp:plainOp op=true) (h:∀x∈op.operands.toList,aev X env x=aev X env' x)
  (ha:aoper X op env σ (fun _ _ _=>False) K):aoper X op env' σ (fun _ _ _=>False) K:=by
 cases op with
 |move x=>have e:=h x (by simp[Op.operands]);simp only[aoper,aop]at ha ⊢;rw[←e];exact ha
 |assign x=>have e:=h x (by simp[Op.operands]);simp only[aoper,aop]at ha ⊢;rw[←e];exact ha
 |pick c x y=>
  have e1:=h c (by simp[Op.operands]);have e2:=h x (by simp[Op.operands]);have e3:=h y (by simp[Op.operands])
  simp only[aoper,aop]at ha ⊢;rw[←e1,←e2,←e3];exact ha
 |load t x=>have e:=h x (by simp[Op.operands]);simp only[aoper,aop]at ha ⊢;rw[←e];exact ha
 |fieldAddr t x f=>have e:=h x (by simp[Op.operands]);simp only[aoper,aop]at ha ⊢;rw[←e];exact ha
 |field t x f=>have e:=h x (by simp[Op.operands]);simp only[aoper,aop]at ha ⊢;rw[←e];exact ha
 |indexAddr t x y=>have e1:=h x (by simp[Op.operands]);have e2:=h y (by simp[Op.operands]);simp only[aoper,aop]at ha ⊢;rw[←e1,←e2];exact ha
 |index t x y=>have e1:=h x (by simp[Op.operands]);have e2:=h y (by simp[Op.operands]);simp only[aoper,aop]at ha ⊢;rw[←e1,←e2];exact ha
 |binOp o t x y z=>have e1:=h x (by simp[Op.operands]);have e2:=h y (by simp[Op.operands]);simp only[aoper,aop]at ha ⊢;rw[←e1,←e2];exact ha
 |unOp o t x=>have e:=h x (by simp[Op.operands]);simp only[aoper,aop]at ha ⊢;rw[←e];exact ha
 |extract x i=>have e:=h x (by simp[Op.operands]);simp only[aoper,aop]at ha ⊢;rw[←e];exact ha
 |lookup t x y k=>have e1:=h x (by simp[Op.operands]);have e2:=h y (by simp[Op.operands]);simp only[aoper,aop]at ha ⊢;rw[←e1,←e2];exact ha
 |convert s d x=>have e:=h x (by simp[Op.operands]);simp only[aoper,aop]at ha ⊢;rw[←e];exact ha
 |slice t x lo hi m=>
  cases m with
  |some m=>simp[plainOp]at hp
  |none=>
   have e1:=h x (by simp[Op.operands])
   have e2:lo.map (aev X env)=lo.map (aev X env'):=by cases lo with|none=>rfl|some y=>simp only[Option.map_some];rw[h y (by simp[Op.operands])]
   have e3:hi.map (aev X env)=hi.map (aev X env'):=by cases hi with|none=>rfl|some y=>simp only[Option.map_some];rw[h y (by cases lo<;>simp[Op.operands])]
   simp only[aoper,aop]at ha ⊢;rw[←e1,←e2,←e3];exact ha
 |call c=>
  obtain⟨callee,args,tys⟩:=c
  cases callee with
  |value f=>
   have e1:=h f (by simp[Op.operands,Call.operands])
   have e2:args.toList.map (aev X env)=args.toList.map (aev X env'):=List.map_congr_left fun x hx=>h x (by simp[Op.operands,Call.operands];right;simpa using hx)
   simp only[aoper]at ha ⊢
   rw[←e1,←e2]
   unfold acallee at ha ⊢
   split at ha
   ·exact ha
   ·exact ha
   ·exact ha
  |builtin b=>
   cases b<;>first|(simp[plainOp]at hp;done)|skip
   have e2:∀x∈args.toList,aev X env x=aev X env' x:=fun x hx=>h x (by simp[Op.operands,Call.operands];simpa using hx)
   simp only[aoper,abuiltin]at ha ⊢
   split at ha
   ·rename_i h0 h1 _;simp only[h1]at e2 ⊢;rw[←e2 _ (by simp)];exact ha
   all_goals first|exact False.elim ha|contradiction|(exfalso;simp_all;done)
  |invoke r m=>simp[plainOp]at hp
 |_=>simp[plainOp]at hp
theorem J7A {nt:Nat} {ops:Array Oper} {σ:St} {o:Oper} {r:AV} (hp:plainOp o.op=true) (h:∀t∈o.looksAt ops,env t=env' t) (ha:OpAt X nt ops σ o env r):OpAt X nt ops σ o env' r:=by
 have hops:∀x∈o.op.operands.toList,aev X env x=aev X env' x:=by
  intro x hx
  refine J3b fun t ht=>h t ?_
  subst ht
  simp only[Oper.looksAt,List.mem_append,List.mem_filterMap]
  exact .inl ⟨_,hx,rfl⟩
 obtain⟨hd,ha⟩:=ha
 refine⟨hd,?_⟩
 cases hgd:o.guard with
 |none=>simp only[hgd]at ha ⊢;exact JA hp hops ha
 |some jw=>
  obtain⟨j,want⟩:=jw
  simp only[hgd]at ha ⊢
  obtain⟨d,hj,hn,ha⟩:=ha
  have hed:env d=env' d:=h d (by simp only[Oper.looksAt,hgd,hj,List.mem_append];right;simp)
  refine⟨d,hj,hn,?_⟩
  rw[←hed]
  rcases ha with⟨h1,h2⟩|h1|h1
  ·exact .inl ⟨h1,JA hp hops h2⟩
  ·exact .inr (.inl h1)
  ·exact .inr (.inr h1)
end congr
theorem LR.facts {X:Cfg} {nt:Nat} {ops:Array Oper} {σ:St}:∀{l:List Oper} {env E:Env},LR X nt ops σ l env E→
  (∀(i j:Nat) (oi oj:Oper) (d:Nat),i≠j→l[i]? = some oi→l[j]? = some oj→oi.dst=some d→oj.dst≠some d)→
  (∀t,(∀o∈l,o.dst≠some t)→E t=env t)∧
  ∀(k:Nat) (o:Oper),l[k]? = some o→∃e r,OpAt X nt ops σ o e r∧(∀d,o.dst=some d→E d=r)∧(∀t,(∀(j:Nat) (oj:Oper),j<k→l[j]? = some oj→oj.dst≠some t)→e t=env t)∧(∀(j:Nat) (oj:Oper) (t:Nat),j<k→l[j]? = some oj→oj.dst=some t→e t=E t)
 |[],env,E,h,_=>by
  cases h
  exact⟨fun _ _=>rfl,fun k o h=>by simp at h⟩
 |o::rest,env,E,h,hd=>by
  cases h with
  |@op _ _ _ _ r h k=>
   obtain⟨h1,h2⟩:=k.facts fun i j oi oj d hij hi hj=>hd (i+1) (j+1) oi oj d (by omega) (by simpa using hi) (by simpa using hj)
   have hfst:∀d,o.dst=some d→E d=r:=by
    intro d hod
    rw[h1 d fun o' ho'=>?_]
    ·simp[put,hod]
    ·obtain⟨j,hj⟩:=List.getElem?_of_mem ho'
     exact hd 0 (j+1) o o' d (by omega) (by simp) (by simpa using hj) hod
   have hput:∀t,o.dst≠some t→put env o.dst r t=env t:=by
    intro t ht
    cases hod:o.dst with
    |none=>rfl
    |some d=>simp only[put];rw[if_neg (by intro e;subst e;exact ht hod)]
   refine⟨fun t ht=>?_,fun k' o' hk'=>?_⟩
   ·rw[h1 t fun o' ho'=>ht o' (by simp[ho'])]
    exact hput t (ht o (by simp))
   ·cases k' with
    |zero=>
     simp only[List.getElem?_cons_zero,Option.some.injEq]at hk'
     subst hk'
     exact⟨env,r,h,hfst,fun _ _=>rfl,fun j oj t hj=>by omega⟩
    |succ k'=>
     obtain⟨e,r',a1,a2,a3,a4⟩:=h2 k' o' (by simpa using hk')
     refine⟨e,r',a1,a2,fun t ht=>?_,fun j oj t hj hoj hot=>?_⟩
     ·rw[a3 t fun j oj hj hoj=>ht (j+1) oj (by omega) (by simpa using hoj)]
      exact hput t (ht 0 o (by omega) (by simp))
     ·cases j with
      |zero=>
       simp only[List.getElem?_cons_zero,Option.some.injEq]at hoj
       subst hoj
       have hno:∀o''∈rest,o''.dst≠some t:=fun o'' ho''=>by
        obtain⟨j,hj⟩:=List.getElem?_of_mem ho''
        exact hd 0 (j+1) o o'' t (by omega) (by simp) (by simpa using hj) hot
       rw[a3 t (fun j oj _ hoj=>hno oj (List.mem_of_getElem? hoj)),h1 t hno]
      |succ j=>exact a4 j oj t (by omega) (by simpa using hoj) hot
theorem J0r {ops:Array Oper} (h:drawOk ops=true) {i:Nat} {o:Oper} (ho:ops[i]? = some o):plainOp o.op=true∧(∀e∈o.after,Region.binds .any e=true→e.on<i)∧
  ∀(j:Nat) (oj:Oper) (d:Nat),ops[j]? = some oj→oj.dst=some d→(j≠i→o.dst≠some d)∧(d∈o.looksAt ops→(∃e∈o.after,Region.binds .any e=true∧e.on=j)∨∃e∈oj.after,Region.binds .any e=true∧e.on=i):=by
 have hi:i<ops.size:=(Array.getElem?_eq_some_iff.1 ho).1
 have h1:=List.all_eq_true.1 h i (List.mem_range.2 hi)
 simp only[ho,Bool.and_eq_true]at h1
 obtain⟨⟨h2,h3⟩,h4⟩:=h1
 refine⟨h2,fun e he hb=>?_,fun j oj d hj hd=>?_⟩
 ·have:=Array.all_eq_true_iff_forall_mem.1 h3 e he
  simpa[hb]using this
 ·have hjs:j<ops.size:=(Array.getElem?_eq_some_iff.1 hj).1
  have:=List.all_eq_true.1 h4 j (List.mem_range.2 hjs)
  simp only[hj,Option.bind_some,hd,Bool.and_eq_true,Bool.or_eq_true,beq_iff_eq,bne_iff_ne,ne_eq,Bool.not_eq_true',List.contains_eq_mem,decide_eq_false_iff_not]at this
  refine⟨fun hne=>this.1.resolve_left hne,fun hm=>?_⟩
  rcases this.2 with(h5|h5)|h5
  ·exact absurd hm h5
  ·obtain⟨k,hk,hb⟩:=Array.any_eq_true.1 h5
   have he:o.after[k]∈o.after:=Array.getElem_mem hk
   generalize o.after[k]=e at he hb
   simp only[Bool.and_eq_true,beq_iff_eq]at hb
   exact .inl ⟨e,he,hb.1,hb.2⟩
  ·obtain⟨k,hk,hb⟩:=Array.any_eq_true.1 h5
   have he:oj.after[k]∈oj.after:=Array.getElem_mem hk
   generalize oj.after[k]=e at he hb
   simp only[Bool.and_eq_true,beq_iff_eq]at hb
   exact .inr ⟨e,he,hb.1,hb.2⟩
theorem J0D {ops:Array Oper} {listed:Array Bool} {i:Nat} (h:i∈Region.ready .any ops listed):i<ops.size∧listed.getD i true=false∧∃o,ops[i]? = some o∧∀e∈o.after,Region.binds .any e=true→listed.getD e.on false=true:=by
 simp only[Region.ready,List.mem_filter,List.mem_range,Bool.and_eq_true,Bool.not_eq_true']at h
 obtain⟨h1,h2,h3⟩:=h
 refine⟨h1,h2,ops[i],by simp[h1],fun e he hb=>?_⟩
 simp only[h1,Array.getElem?_eq_getElem,Option.map_some,Option.getD_some]at h3
 have:=Array.all_eq_true_iff_forall_mem.1 h3 e he
 simpa[hb]using this
theorem J8m {ops:Array Oper} (h:drawOk ops=true) {listed:Array Bool} (hl:listed.size=ops.size) (hr:Region.ready .any ops listed=[]):∀i,i<ops.size→listed.getD i true=true:=by
 intro i
 induction i using Nat.strongRecOn with
 |_ i ih=>
  intro hi
  cases hc:listed.getD i true with
  |true=>rfl
  |false=>
   exfalso
   have:i∈Region.ready .any ops listed:=by
    simp only[Region.ready,List.mem_filter,List.mem_range,hi,true_and,hc,Bool.not_false,Bool.true_and,Array.getElem?_eq_getElem,Option.map_some,Option.getD_some]
    refine Array.all_eq_true_iff_forall_mem.2 fun e he=>?_
    cases hb:Region.binds .any e with
    |false=>rfl
    |true=>
     have hlt:=(J0r h (i:=i) (o:=ops[i]) (by simp[hi])).2.1 e he hb
     have:=ih e.on hlt (by omega)
     simp only[Bool.not_true,Bool.false_or]
     have hsz:e.on<listed.size:=by omega
     simpa[Array.getD,hsz]using this
   rw[hr]at this
   cases this
theorem Jy {X:Cfg} {nt id:Nat} {ops:Array Oper} {Q:Exit→Env→St→Prop} {env:Env} {σ:St} (hm:X.P.follows .mixedOrders=true) (hc:drawOk ops=true) (h:AD X nt ops Q σ ops.toList env):
  Ok X nt (.region id ops true) Q env σ:=by
 unfold Ok
 intro F0 η0 a0 w0 hg0 hr0
 obtain⟨E,hlr,hQ⟩:=h
 obtain⟨hbase,hfacts⟩:=hlr.facts fun i j oi oj d hij hi hj hdi hdj=>by
  simp only[Array.getElem?_toList]at hi hj
  exact((J0r hc hi).2.2 j oj d hj hdj).1 (Ne.symm hij) hdi
 refine wp_region_any hm ?_
 have key:∀(fuel:Nat) (listed:Array Bool) (cur:Env) (F:FH) (η:Et) (a:Act) (w:World),listed.size=ops.size→(fuel=0→∀i,i<ops.size→listed.getD i true=true)→
   (∀i,i<ops.size→listed.getD i true=false→True)→((List.range ops.size).filter (fun i=>!listed.getD i true)).length≤fuel→
   Step F0 η0 σ w0 F η σ w→GRel X F→Rel F η nt cur σ a w→
   (∀t,(∀i o,ops[i]? = some o→listed.getD i true=true→o.dst≠some t)→cur t=env t)→(∀i o,ops[i]? = some o→listed.getD i true=true→∀e∈o.after,Region.binds .any e=true→listed.getD e.on false=true)→(∀i o t,ops[i]? = some o→listed.getD i true=true→o.dst=some t→cur t=E t)→
   wpAny X.P .any ops (Post X nt F0 η0 σ w0 Q) fuel listed a w:=by
  intro fuel
  induction fuel with
  |zero=>
   intro listed cur F η a w hls h0 _ hlen hs hg hr hb hcl hl
   have hall:=h0 rfl
   have hE:cur=E:=by
    funext t
    by_cases ht:∀o∈ops.toList,o.dst≠some t
    ·rw[hb t (fun i o hi _=>ht o (by simpa using Array.mem_of_getElem? hi)),hbase t ht]
    ·have ⟨o,ho,hot⟩:∃o,o∈ops.toList∧o.dst=some t:=by
      apply Classical.byContradiction
      intro hno
      exact ht fun o ho hot=>hno ⟨o,ho,hot⟩
     obtain⟨i,hi⟩:=List.getElem?_of_mem ho
     simp only[Array.getElem?_toList]at hi
     exact hl i o t hi (hall i (Array.getElem?_eq_some_iff.1 hi).1) hot
   subst hE
   refine⟨?_,⟨F,η,cur,σ,hs,hg,hr,hQ⟩⟩
   cases hrd:Region.ready .any ops listed with
   |nil=>rfl
   |cons i rest=>
    obtain⟨h1,h2,_⟩:=J0D (ops:=ops) (listed:=listed) (i:=i) (by rw[hrd];simp)
    rw[hall i h1]at h2;cases h2
  |succ fuel ih=>
   intro listed cur F η a w hls h0 _ hlen hs hg hr hb hcl hl
   refine⟨fun hnil=>?_,fun i hi=>?_⟩
   ·have hall:=J8m hc hls hnil
    have hE:cur=E:=by
     funext t
     by_cases ht:∀o∈ops.toList,o.dst≠some t
     ·rw[hb t (fun i o hi _=>ht o (by simpa using Array.mem_of_getElem? hi)),hbase t ht]
     ·have ⟨o,ho,hot⟩:∃o,o∈ops.toList∧o.dst=some t:=by
       apply Classical.byContradiction
       intro hno
       exact ht fun o ho hot=>hno ⟨o,ho,hot⟩
      obtain⟨i,hi⟩:=List.getElem?_of_mem ho
      simp only[Array.getElem?_toList]at hi
      exact hl i o t hi (hall i (Array.getElem?_eq_some_iff.1 hi).1) hot
    subst hE
    exact⟨F,η,cur,σ,hs,hg,hr,hQ⟩
   ·obtain⟨hin,hun,o,ho,hdep⟩:=J0D hi
    obtain⟨hpl,hbef,hlook⟩:=J0r hc ho
    obtain⟨e,r,hat,hEr,hebase,hedone⟩:=hfacts i o (by simpa using ho)
    have hat':OpAt X nt ops σ o cur r:=by
     refine J7A hpl (fun t ht=>?_) hat
     by_cases hw:∀o∈ops.toList,o.dst≠some t
     ·rw[hebase t (fun j oj _ hoj=>hw oj (List.mem_of_getElem? hoj)),hb t (fun i o hi _=>hw o (by simpa using Array.mem_of_getElem? hi))]
     ·have ⟨oj,hoj,hot⟩:∃o,o∈ops.toList∧o.dst=some t:=by
       apply Classical.byContradiction
       intro hno
       exact hw fun o ho hot=>hno ⟨o,ho,hot⟩
      obtain⟨j,hj⟩:=List.getElem?_of_mem hoj
      simp only[Array.getElem?_toList]at hj
      rcases(hlook j oj t hj hot).2 ht with⟨ed,hed,hbd,hon⟩|⟨ed,hed,hbd,hon⟩
      ·have hlt:=hbef ed hed hbd
       have hjl:=hdep ed hed hbd
       rw[hon]at hlt hjl
       rw[hedone j oj t hlt (by simpa using hj) hot]
       refine(hl j oj t hj ?_ hot).symm
       have hjs:j<listed.size:=by rw[hls];exact(Array.getElem?_eq_some_iff.1 hj).1
       simpa[Array.getD,hjs]using hjl
      ·have hlt:=(J0r hc hj).2.1 ed hed hbd
       rw[hon]at hlt
       have hone:∀(j':Nat) (oj':Oper),ops[j']? = some oj'→oj'.dst=some t→j'=j:=fun j' oj' hj' hot'=>
        Classical.byContradiction fun hne=>((J0r hc hj').2.2 j oj t hj hot).1 (Ne.symm hne) hot'
       have hju:¬listed.getD j true=true:=fun hjl=>by
        have h6:=hcl j oj hj hjl ed hed hbd
        rw[hon]at h6
        have hil:i<listed.size:=by omega
        simp only[Array.getD,hil,dif_pos]at h6 hun
        rw[h6]at hun;cases hun
       rw[hebase t (fun j' oj' hj'k hoj' hot'=>by have:=hone j' oj' (by simpa using hoj') hot';omega),hb t (fun j' oj' hoj' hjl hot'=>by have:=hone j' oj' hoj' hot';subst this;exact hju hjl)]
    -- once the operation is done
    have next:∀(F':FH) (η':Et) (v:Value) (w':World),Step F η σ w F' η' σ w'→GRel X F'→Rel F' η' nt cur σ a w'→VRel F' η' σ.next r v→
      wpAny X.P .any ops (Post X nt F0 η0 σ w0 Q) fuel (listed.setIfInBounds i true) (a.put o.dst v) w':=by
     intro F' η' v w' s1 g1 r1 hv
     have hset:∀k,(listed.setIfInBounds i true).getD k true=if k=i then true else listed.getD k true:=by
      intro k
      simp only[Array.getD_eq_getD_getElem?,Array.getElem?_setIfInBounds]
      by_cases hki:k=i
      ·subst hki;simp[hls,hin]
      ·rw[if_neg (Ne.symm hki),if_neg hki]
     have hfewer:((List.range ops.size).filter (fun k=>!(listed.setIfInBounds i true).getD k true)).length<((List.range ops.size).filter (fun k=>!listed.getD k true)).length:=by
      have hsub:(List.range ops.size).filter (fun k=>!(listed.setIfInBounds i true).getD k true)=((List.range ops.size).filter (fun k=>!listed.getD k true)).filter (fun k=>k != i):=by
       rw[List.filter_filter]
       refine List.filter_congr fun k _=>?_
       rw[hset k]
       by_cases hki:k=i
       ·simp[hki]
       ·simp[hki]
      rw[hsub]
      refine List.length_filter_lt_length_iff_exists.2 ⟨i,?_,by simp⟩
      simp only[List.mem_filter,List.mem_range,Bool.not_eq_true']
      exact⟨hin,hun⟩
     refine ih _ (put cur o.dst r) F' η' _ w' (by simp[hls]) ?_ (fun _ _ _=>trivial) (by omega) (hs.trans s1) g1 (r1.put hat'.1 hv) ?_ ?_ ?_
     ·intro hf k hk
      subst hf
      rw[hset k]
      by_cases hki:k=i
      ·rw[if_pos hki]
      ·rw[if_neg hki]
       cases hck:listed.getD k true with
       |true=>rfl
       |false=>
        exfalso
        have hkm:k∈(List.range ops.size).filter (fun k=>!(listed.setIfInBounds i true).getD k true):=by
         simp only[List.mem_filter,List.mem_range,Bool.not_eq_true',hset k,if_neg hki]
         exact⟨hk,hck⟩
        have:=List.length_pos_of_mem hkm
        omega
     ·intro t ht
      have hne:=ht i o ho (by rw[hset i,if_pos rfl])
      have hb':=hb t (fun i' o' hi' hl'=>ht i' o' hi' (by rw[hset i'];split<;>first|rfl|exact hl'))
      cases hod:o.dst with
      |none=>exact hb'
      |some d=>simp only[put];rw[if_neg (by intro e;subst e;exact hne hod)];exact hb'
     ·intro k ok hk hkl e he hbe
      have hold:listed.getD e.on false=true:=by
       by_cases hki:k=i
       ·subst hki
        rw[ho]at hk
        cases hk
        exact hdep e he hbe
       ·rw[hset k,if_neg hki]at hkl
        exact hcl k ok hk hkl e he hbe
      simp only[Array.getD_eq_getD_getElem?,Array.getElem?_setIfInBounds]at hold ⊢
      by_cases hei:i=e.on
      ·subst hei;simp[hls,hin]
      ·rw[if_neg hei];exact hold
     ·intro k ok t hk hkl hkt
      by_cases hki:k=i
      ·subst hki
       rw[ho]at hk
       simp only[Option.some.injEq]at hk
       subst hk
       rw[hkt]
       simp only[put,if_true]
       exact(hEr t hkt).symm
      ·rw[hset k,if_neg hki]at hkl
       have hne:o.dst≠some t:=((J0r hc ho).2.2 k ok t hk hkt).1 hki
       have:put cur o.dst r t=cur t:=by
        cases hod:o.dst with
        |none=>rfl
        |some d=>simp only[put];rw[if_neg (by intro e;subst e;exact hne hod)]
       rw[this]
       exact hl k ok t hk hkl hkt
    have done:(aoper X o.op cur σ (fun _ _ _=>False) fun v σ'=>σ'=σ∧v=r)→o.wp X.P a w (wpAny X.P .any ops (Post X nt F0 η0 σ w0 Q) fuel (listed.setIfInBounds i true)) (Post X nt F0 η0 σ w0 Q):=by
     intro hop
     refine J0Y hg hr hat'.1 hop ?_ ?_
     ·rintro F' η' x v σ' w' s1 g1 r1 hv ⟨rfl,rfl⟩
      exact next F' η' v w' s1 g1 r1 hv
     ·intro ch F' η' σ' w' _ _ _ hf
      exact hf.elim
    have skip:r=.d (.s undef)→wpAny X.P .any ops (Post X nt F0 η0 σ w0 Q) fuel (listed.setIfInBounds i true) (a.put o.dst undef) w:=by
     intro hru
     exact next F η undef w (.refl _ _ _ _) hg hr (by rw[hru];exact .d (.s _))
    unfold wpOp
    simp only[ho]
    obtain⟨_,hat'⟩:=hat'
    cases hgd:o.guard with
    |none=>
     simp only[hgd]at hat'
     rw[if_pos (by simp[Region.wanted,hgd])]
     exact .inl (done hat')
    |some jw=>
     obtain⟨j,want⟩:=jw
     simp only[hgd]at hat'
     obtain⟨d,hjd,hdn,hat'⟩:=hat'
     rcases hat' with⟨h1,h2⟩|⟨h1,h2⟩|⟨h1,h2⟩
     ·obtain⟨hy1,hy2⟩:=JS hr hjd hdn h1
      have hy:yielded ops a.tmps j=some want:=by unfold yielded;rw[hy1,Option.bind_some,hy2]
      rw[if_pos (by simp[Region.wanted,hgd,hy])]
      exact .inl (done h2)
     ·obtain⟨hy1,hy2⟩:=JS hr hjd hdn h1
      have hy:yielded ops a.tmps j=some (!want):=by unfold yielded;rw[hy1,Option.bind_some,hy2]
      rw[if_neg (by simp[Region.wanted,hgd,hy])]
      exact skip h2
     ·obtain⟨hy1,hy2⟩:=JS hr hjd hdn h1
      have hy:yielded ops a.tmps j=none:=by unfold yielded;rw[hy1,Option.bind_some,hy2];rfl
      rw[if_neg (by simp[Region.wanted,hgd,hy])]
      exact skip h2
 refine key ops.size _ env F0 η0 a0 _ (by simp) ?_ (fun _ _ _=>trivial) ?_ Step.drew hg0 ⟨hr0.fr.drew,hr0.st.drew,hr0.en,hr0.sz,hr0.df⟩ (fun _ _=>rfl) ?_ ?_
 ·intro h0 i hi;omega
 ·exact Nat.le_trans (List.length_filter_le _ _) (by simp)
 ·intro i o hi hl
  have his:=(Array.getElem?_eq_some_iff.1 hi).1
  simp[Array.getD,his]at hl
 ·intro i o t hi hl
  have his:=(Array.getElem?_eq_some_iff.1 hi).1
  simp[Array.getD,his]at hl
end Go.Pm
/- Part of the proof: Pm17. -/
namespace Go.Pm
attribute [local irreducible] AR Ok inBlock andThen endQ aoper
section draw
variable {X:Cfg} {nt:Nat} {ops:Array Oper} {rest:List Oper} {Q:Exit→Env→St→Prop} {env:Env} {σ:St} {dst:Option Tmp} {op:Op} {ty:TypeId} {pos:String} {after:Array Edge} {j d:Nat} {b want:Bool} {r:AV}
theorem J9V (h:Q .normal env σ):AD X nt ops Q σ [] env:=⟨env,.nil env,h⟩
theorem J7S (hd:dst.all (·<nt)=true) (h:aoper X op env σ (fun _ _ _=>False) fun v σ'=>σ'=σ∧v=r) (k:AD X nt ops Q σ rest (put env dst r)):AD X nt ops Q σ (⟨dst,op,ty,pos,after,none⟩::rest) env:=by
 obtain⟨E,h1,h2⟩:=k
 exact⟨E,.op (o:=⟨dst,op,ty,pos,after,none⟩) ⟨hd,h⟩ h1,h2⟩
theorem J71 (hj:(ops[j]?).bind (·.dst)=some d) (hn:Nat.blt d nt=true) (hb:env d=.d (.s (.bool b))) (hd:dst.all (·<nt)=true) (hw:b=want) (h:aoper X op env σ (fun _ _ _=>False) fun v σ'=>σ'=σ∧v=r)
  (k:AD X nt ops Q σ rest (put env dst r)):AD X nt ops Q σ (⟨dst,op,ty,pos,after,some (j,want)⟩::rest) env:=by
 subst hw
 obtain⟨E,h1,h2⟩:=k
 exact⟨E,.op (o:=⟨dst,op,ty,pos,after,some (j,b)⟩) ⟨hd,d,hj,Je hn,.inl ⟨hb,h⟩⟩ h1,h2⟩
theorem J8i (hj:(ops[j]?).bind (·.dst)=some d) (hn:Nat.blt d nt=true) (hb:env d=.d (.s (.bool b))) (hd:dst.all (·<nt)=true) (hw:b=false) (k:AD X nt ops Q σ rest (put env dst (.d (.s undef)))):
  AD X nt ops Q σ (⟨dst,op,ty,pos,after,some (j,true)⟩::rest) env:=by
 subst hw
 obtain⟨E,h1,h2⟩:=k
 exact⟨E,.op (o:=⟨dst,op,ty,pos,after,some (j,true)⟩) ⟨hd,d,hj,Je hn,.inr (.inl ⟨hb,rfl⟩)⟩ h1,h2⟩
end draw
def im2 {α:Type} (e:α→List D) (l:List α):List (List AV):=(l.map e).map (·.map .d)
theorem JT {α:Type} (e:α→List D) (l:List α):(im2 e l).length=l.length:=by simp[im2]
theorem J4j {α:Type} (e:α→List D) (l m:List α):im2 e l++im2 e m=im2 e (l++m):=by simp[im2]
def rowDF:List AV→Option (List D)
 |[]=>some []
 |.d x::l=>match rowDF l with|some m=>some (x::m)|none=>none
 |_::_=>none
theorem J6P:∀{l:List AV} {m:List D},rowDF l=some m→l=m.map .d
 |[],m,h=>by simp[rowDF]at h;simp[h]
 |.d x::l,m,h=>by
  simp only[rowDF]at h
  split at h
  ·rename_i k hk;simp only[Option.some.injEq]at h;subst h;rw[J6P hk];rfl
  ·simp at h
 |.agg _::l,m,h=>by simp[rowDF]at h
 |.tup _::l,m,h=>by simp[rowDF]at h
 |.ref _ _::l,m,h=>by simp[rowDF]at h
 |.sl _ _ _ _::l,m,h=>by simp[rowDF]at h
 |.ep _ _ _ _::l,m,h=>by simp[rowDF]at h
 |.mp _::l,m,h=>by simp[rowDF]at h
 |.it _::l,m,h=>by simp[rowDF]at h
 |.fn _ _::l,m,h=>by simp[rowDF]at h
 |.ifc _ _::l,m,h=>by simp[rowDF]at h
 |.any::l,m,h=>by simp[rowDF]at h
def rowsDF:List (List AV)→Option (List (List D))
 |[]=>some []
 |r::l=>match rowDF r,rowsDF l with|some x,some m=>some (x::m)|_,_=>none
theorem J5u:∀{l:List (List AV)} {m:List (List D)},rowsDF l=some m→l=m.map (·.map .d)
 |[],m,h=>by simp[rowsDF]at h;simp[h]
 |r::l,m,h=>by
  simp only[rowsDF]at h
  split at h
  ·rename_i x k hx hk;simp only[Option.some.injEq]at h;subst h;rw[J5u hk,J6P hx];rfl
  ·simp at h
section rows
variable {X:Cfg} {nt:Nat} {ops:Array Oper} {rest:List Oper} {Q:Exit→Env→St→Prop} {K:AV→St→Prop} {env:Env} {σ σ':St} {dst:Option Tmp} {op:Op} {ty:TypeId} {pos:String} {after:Array Edge}
theorem J39 {t len:Nat} {ps:Array (Nat×Operand)} {ti te:TI} {e n:Nat} {rows:List (List AV)} (ht:X.T t=some ti) (hk:ti.kind=.slice e) (hte:X.T e=some te) (hp:Nat.blt 0 te.size=true) (hb:Nat.ble (len*te.size) 16777216=true)
  (hr:fillRows te.size (List.replicate len (zrow te)) (ps.toList.map fun p=>(p.1,aev X env p.2))=some rows) (hn:natF σ.next=some n) (h:K (.sl n n 0 len) (σ.alloc (.row n e te.size rows))):aoper X (.buildSlice t len ps) env σ Q K:=by
 have hn:=J0S hn
 subst hn
 simp only[aoper,aop,abuildSlice]
 exact⟨ti,ht,e,te,hk,hte,Je hp,Nat.le_of_ble_eq_true hb,rows,hr,h⟩
theorem J8q {t len d:Nat} {ps:Array (Nat×Operand)} {ti te:TI} {e:Nat} {rows:List (List AV)} {drows:List (List D)} (hd:Nat.blt d nt=true) (ht:X.T t=some ti) (hk:ti.kind=.slice e) (hte:X.T e=some te) (hp:Nat.blt 0 te.size=true)
  (hb:Nat.ble (len*te.size) 16777216=true) (hr:fillRows te.size (List.replicate len (zrow te)) (ps.toList.map fun p=>(p.1,aev X env p.2))=some rows) (hdr:rowsDF rows=some drows) (hl:drows.length=len)
  (hnew:σ.obj σ.next=none) (h:AR X nt ops Q rest (put env (some d) (.d (.im drows))) σ.bump):AR X nt ops Q (⟨some d,.buildSlice t len ps,ty,pos,after,none⟩::rest) env σ:=by
 refine J6b (by simpa using Je hd) ?_
 simp only[aoper,aop,abuildSlice]
 refine⟨ti,ht,e,te,hk,hte,Je hp,Nat.le_of_ble_eq_true hb,rows,hr,?_⟩
 have he:=J5u hdr
 subst he
 refine Jaw (σ':=σ.bump) (J3v σ.next (v:=σ.next) (E:=e) (sz:=te.size) (rows:=drows) (by simp[St.alloc]) rfl ?_ ?_) h
 ·intro j o' hj
  have hj':σ.obj j=some o':=hj
  have hne:j≠σ.next:=fun e=>by subst e;rw[hnew]at hj';cases hj'
  exact⟨hne,o',by simp[St.alloc,hne,hj'],J5N _ o'⟩
 ·intro t'
  by_cases htd:t'=d
  ·subst htd
   simp only[put,if_true]
   exact .sl rfl (by omega) (by rw[Nat.sub_zero,List.drop_zero,←hl,List.take_length])
  ·simp only[put,htd,if_false]
   exact .refl _
theorem J8A {α:Type} {e:α→List D} {l m:List α} {xrows:List (List D)} {as:Array Operand} {ts:Array TypeId} {s x:Operand} {t tx el i v n:Nat} {ti te tix:TI} (hs:aev X env s=.sl i v 0 l.length) (h1:as.toList=[s,x]) (h2:ts.toList=[t,tx])
  (ht:X.T t=some ti) (hk:ti.kind=.slice el) (hte:X.T el=some te) (hp:Nat.blt 0 te.size=true) (hpb:Nat.blt 0 te.bytes=true) (htx:X.T tx=some tix) (hkx:tix.kind=.slice el) (ho:σ.obj i=some (.row v el te.size (im2 e l)))
  (hx:aev X env x=.d (.im xrows)) (hxr:xrows=m.map e) (hsz:∀y:α,(e y).length=te.size) (hb:(l.length+m.length)*te.bytes≤140737488355328) (hn:natF σ.next=some n)
  (h:K (.sl i n 0 (l++m).length) (bumpSet σ i (.row n el te.size (im2 e (l++m))))):aoper X (.call ⟨.builtin .append,as,ts⟩) env σ Q K:=by
 have hn:=J0S hn
 subst hn
 subst hxr
 simp only[aoper,h1,h2,abuiltin,aappend]
 refine⟨ti,ht,el,te,hk,hte,Je hp,Je hpb,tix,htx,im2 e m,by rw[hkx,hx];rfl,?_,?_⟩
 ·intro r hr
  simp only[im2,List.map_map,List.mem_map,Function.comp]at hr
  obtain⟨y,_,rfl⟩:=hr
  simp[hsz]
 ·simp only[hs]
  refine⟨trivial,im2 e l,ho,by rw[JT];exact Nat.le_refl _,by rw[JT];exact hb,?_⟩
  have e1:(im2 e l).take l.length++im2 e m=im2 e (l++m):=by rw[←J4j,List.take_of_length_le (by rw[JT];exact Nat.le_refl _)]
  rw[e1,JT,←List.length_append]
  exact h
theorem J0f {t el n k:Nat} {ti te:TI} {l c:Operand} (hl:aev X env l=vi (k:Int)) (hc:aev X env c=vi (k:Int)) (hk':k≤4294967296) (ht:X.T t=some ti) (hk:ti.kind=.slice el) (hte:X.T el=some te)
  (hp:Nat.blt 0 te.size=true) (hb:Nat.ble te.bytes 32768=true) (hn:natF σ.next=some n) (h:K (.sl n n 0 k) (σ.alloc (.row n el te.size (List.replicate k (zrow te))))):aoper X (.makeSlice t l c) env σ Q K:=by
 have hn:=J0S hn
 subst hn
 simp only[aoper,aop,amakeSlice]
 refine⟨k,k,⟨_,hl⟩,⟨_,hc⟩,Int.natCast_nonneg _,Int.le_refl _,by omega,ti,ht,el,te,hk,hte,Je hp,Nat.le_of_ble_eq_true hb,?_⟩
 rw[Int.toNat_natCast]
 exact h
theorem Jv {t i v hi k el:Nat} {ti te:TI} {rows:List (List AV)} {x y:Operand} (hx:aev X env x=.sl i v 0 hi) (hy:aev X env y=vi (k:Int)) (hlt:k<hi) (ht:X.T t=some ti) (hk:ti.kind=.slice el) (hte:X.T el=some te)
  (ho:σ.obj i=some (.row v el te.size rows)) (h:K (.ep i v k 0) σ):aoper X (.indexAddr t x y) env σ Q K:=by
 simp only[aoper,aop,aindexAddr]
 refine⟨k,⟨_,hy⟩,Int.natCast_nonneg _,ti,ht,?_⟩
 simp only[hk,hx]
 exact⟨by omega,⟨te,rows,hte,ho⟩,by simpa using h⟩
def tRows {α:Type} (e:α→List D) (l:List α) (m:Nat) (z:List AV):List (List AV):=im2 e l++List.replicate m z
theorem J7r {α:Type} (e:α→List D) (l:List α) (z:List AV):tRows e l 0 z=im2 e l:=by simp[tRows]
theorem J8j {α:Type} (e:α→List D) (l:List α) (m:Nat) (z:List AV) (y:α):(tRows e l (m+1) z).set l.length ((e y).map .d)=tRows e (l++[y]) m z:=by
 simp only[tRows]
 rw[List.set_append_right _ _ (by rw[JT];exact Nat.le_refl _),JT,Nat.sub_self,List.replicate_succ,List.set_cons_zero,←J4j]
 simp[im2]
theorem Jbw {α:Type} {e:α→List D} {l:List α} {c:Code} (t:Nat) {i v el sz n:Nat} {Q:Exit→Env→St→Prop} (ht:env t=.sl i v 0 n) (ho:σ.obj i=some (.row v el sz (im2 e l))) (hn:n=l.length)
  (h:Ok X nt c Q (envL [(t,.d (.im (l.map e)))]) ⟨fun _=>none,σ.next⟩):Ok X nt c Q env σ:=by
 refine J0a (env':=envL [(t,.d (.im (l.map e)))]) (σ':=⟨fun _=>none,σ.next⟩) (J3v i (v:=v) (E:=el) (sz:=sz) (rows:=l.map e) ho rfl (fun j o hj=>by cases (show(none:Option AO)=some o from hj)) ?_) h
 intro t'
 simp only[envL]
 by_cases h1:t'=t
 ·subst h1
  rw[if_pos rfl,ht]
  exact .sl rfl (by simp[hn]) (by rw[hn,Nat.sub_zero,List.drop_zero,List.take_of_length_le (by simp)])
 ·rw[if_neg h1];exact .any _
end rows
end Go.Pm
/- Part of the proof: Dt. -/
namespace Go.Pm
structure Itm where
 op:Int
 val:Int
 name:ByteArray
structure Cnd where
 name:ByteArray
 on:Bool
structure Vr where
 name:ByteArray
 type:Int
 clock:List Cnd
structure Eqn where
 lhs:List ByteArray
 code:List Itm
 call:ByteArray
 args:List (List Itm)
structure Nod where
 name:ByteArray
 ins:List Vr
 outs:List Vr
 vars:List Vr
 eqs:List Eqn
def eStr (s:ByteArray):List D:=[.s (.string s)]
def eItm (x:Itm):List D:=[.s (.int .i64 x.op),.s (.int .i64 x.val),.s (.string x.name)]
def eItms (l:List Itm):List D:=[.im (l.map eItm)]
def eCnd (x:Cnd):List D:=[.s (.string x.name),.s (.bool x.on)]
def eVr (x:Vr):List D:=[.s (.string x.name),.s (.int .i64 x.type),.im (x.clock.map eCnd)]
def eEqn (x:Eqn):List D:=[.im (x.lhs.map eStr),.im (x.code.map eItm),.s (.string x.call),.im (x.args.map eItms)]
def eNod (x:Nod):List D:=[.s (.string x.name),.im (x.ins.map eVr),.im (x.outs.map eVr),.im (x.vars.map eVr),.im (x.eqs.map eEqn)]
def wL {α:Type} (w:α→Nat) (l:List α):Nat:=l.length+(l.map w).sum
def wStr (s:ByteArray):Nat:=s.size
def wItm (x:Itm):Nat:=x.name.size
def wCnd (x:Cnd):Nat:=x.name.size
def wVr (x:Vr):Nat:=x.name.size+wL wCnd x.clock
def wEqn (x:Eqn):Nat:=wL wStr x.lhs+wL wItm x.code+x.call.size+wL (wL wItm) x.args
def wNod (x:Nod):Nat:=x.name.size+wL wVr x.ins+wL wVr x.outs+wL wVr x.vars+wL wEqn x.eqs
def mx:Nat:=9223372036854775807
def dL {α:Type} (p:α→Prop) (l:List α):Prop:=l.length≤mx∧∀x∈l,p x
def dStr (s:ByteArray):Prop:=s.size≤mx
def dItm (x:Itm):Prop:=x.name.size≤mx
def dCnd (x:Cnd):Prop:=x.name.size≤mx
def dVr (x:Vr):Prop:=x.name.size≤mx∧dL dCnd x.clock
def dEqn (x:Eqn):Prop:=dL dStr x.lhs∧dL dItm x.code∧x.call.size≤mx∧dL (dL dItm) x.args
def dNod (x:Nod):Prop:=x.name.size≤mx∧dL dVr x.ins∧dL dVr x.outs∧dL dVr x.vars∧dL dEqn x.eqs
def subI (left:Int) (n:Nat):Int:=if left<n then -1 else left-n
theorem JZ {left:Int} {n:Nat} (h:subI left n<0):left<n∧subI left n=-1:=by unfold subI at h ⊢;split at h<;>(first|(rename_i h1;exact⟨h1,if_pos h1⟩)|omega)
theorem J02 {left:Int} {n:Nat} (h:¬subI left n<0) (h0:0≤left):(n:Int)≤left∧subI left n=left-n:=by unfold subI at h ⊢;split at h<;>(first|(rename_i h1;exact⟨by omega,if_neg h1⟩)|omega)
theorem Jt {left:Int} {n:Nat} (h:left<n):subI left n=-1:=if_pos h
theorem J2s {left:Int} {n:Nat} (h:(n:Int)≤left):subI left n=left-n:=if_neg (by omega)
theorem J0e {left:Int} {n m:Nat} (h:(n:Int)≤left):subI (left-n) m=subI left (n+m):=by unfold subI;split<;>split<;>omega
end Go.Pm
/- Part of the proof: En1. -/
namespace Go.Pm
def FW (w:World):FH:=fun b=>w.heap[b]?
theorem J21 {α β:Type} (f:α→Option β):∀(l:List α) (ys:List β),l.mapM f=some ys→ys.length=l.length∧∀i (h:i<l.length) (h':i<ys.length),f l[i]=some ys[i]
 |[],ys,h=>by simp at h;subst h;simp
 |a::l,ys,h=>by
  simp only[List.mapM_cons,Option.bind_eq_bind,Option.bind_eq_some_iff,Option.pure_def,Option.some.injEq]at h
  obtain⟨b,hb,ys',hys,rfl⟩:=h
  obtain⟨h1,h2⟩:=J21 f l ys' hys
  refine⟨by simp[h1],fun i h h'=>?_⟩
  cases i with
  |zero=>simpa using hb
  |succ i=>simpa using h2 i (by simpa using h) (by simpa using h')
section rd
variable {H:Type} (en:TypeId×Value→H) (P:Program) (w:World) (base:Nat) (spare:Nat→Bool) (held:Bool)
def Rd {α:Type} (t:TypeId) (e:α→List D) (ok:α→Prop):Prop:=
 ∀fuel cs x,DataW.trod en P w base spare held fuel t cs=some x→∃y:α,ok y∧(e y).length=cs.length∧∀j (h:j<(e y).length),DRel (FW w) (e y)[j] (cs.getD j undef)∧(cs.getD j undef).oneCell'=true
variable {P} {w} {base} {spare} {held} {en}
theorem J8x {t:TypeId} (ht:P.underlying t=some .string):Rd en P w base spare held t eStr (fun s=>s.size≤maxLen):=by
 intro fuel cs x h
 cases fuel with
 |zero=>simp[DataW.trod]at h
 |succ fuel=>
  unfold DataW.trod at h
  rw[ht]at h
  split at h<;>first|(rename_i hq _;cases hq;done)|(rename_i hq;cases hq;done)|(rename_i hq _ _;cases hq;done)|(simp_all;done)|skip
  rename_i s _
  split at h
  ·rename_i hle
   refine⟨s,hle,rfl,fun j hj=>?_⟩
   have:j=0:=by simp[eStr]at hj;omega
   subst this
   exact⟨.s _,rfl⟩
  ·simp at h
theorem Jc7 {t:TypeId} (ht:P.underlying t=some (.int .i64)):Rd en P w base spare held t (fun n:Int=>[.s (.int .i64 n)]) (fun _=>True):=by
 intro fuel cs x h
 cases fuel with
 |zero=>simp[DataW.trod]at h
 |succ fuel=>
  unfold DataW.trod at h
  rw[ht]at h
  split at h<;>first|(rename_i hq _;cases hq;done)|(rename_i hq;cases hq;done)|(rename_i hq _ _;cases hq;done)|(simp_all;done)|skip
  rename_i k k' n hq
  cases hq
  split at h
  ·rename_i hle
   obtain⟨rfl,_⟩:=hle
   refine⟨n,trivial,rfl,fun j hj=>?_⟩
   have:j=0:=by simp at hj;omega
   subst this
   exact⟨.s _,rfl⟩
  ·simp at h
theorem J3B {α:Type} {R:Nat→α→Prop}:∀n:Nat,(∀i,i<n→∃y,R i y)→∃l:List α,l.length=n∧∀i (h:i<l.length),R i l[i]
 |0,_=>⟨[],rfl,fun i h=>by simp at h⟩
 |n+1,h=>by
  obtain⟨l,h1,h2⟩:=J3B n fun i hi=>h i (by omega)
  obtain⟨y,hy⟩:=h n (by omega)
  refine⟨l++[y],by simp[h1],fun i hi=>?_⟩
  by_cases hil:i<l.length
  ·rw[List.getElem_append_left hil];exact h2 i hil
  ·have:i=n:=by simp at hi;omega
   subst this
   rw[List.getElem_append_right (by omega)]
   simpa using hy
theorem J90 {a:Addr} {n:Nat} {cs:List Value} (h:w.cells? base a n=some cs):cs.length=n∧∀j,j<n→w.cell? (a.add j)=some (cs.getD j undef):=by
 unfold World.cells? at h
 split at h
 ·obtain⟨h1,h2⟩:=J21 _ _ _ h
  simp only[List.length_range]at h1
  refine⟨h1,fun j hj=>?_⟩
  have:=h2 j (by simpa using hj) (by omega)
  simpa[List.getD,h1,hj]using this
 ·cases h
theorem J45 {a:Addr} {v:Value} (h:w.cell? a=some v):a.spot=none∧∃c E fz,w.heap[a.block]? = some (.cells c E fz)∧c[a.off]? = some v:=by
 unfold World.cell? at h
 split at h
 ·rename_i c E fz hb
  split at h
  ·cases h
  ·rename_i hs
   exact⟨by simpa using hs,c,E,fz,hb,h⟩
 ·cases h
theorem J23 (a:Addr) (n:Nat):(a.add n).block=a.block∧(a.add n).off=a.off+n:=by
 unfold Addr.add;split<;>simp_all
theorem J10 {α:Type} {t el sz:Nat} {e:α→List D} {ok:α→Prop} (ht:P.underlying t=some (.slice el)) (hE:Rd en P w base spare held el e ok) (hsz:P.cellsOf el=sz) (hp:0<sz) (hes:∀y:α,(e y).length=sz):
  Rd en P w base spare held t (fun l:List α=>[.im (l.map e)]) (fun l=>l.length≤maxLen∧∀x∈l,ok x):=by
 intro fuel cs x h
 cases fuel with
 |zero=>simp[DataW.trod]at h
 |succ fuel=>
  unfold DataW.trod at h
  rw[ht]at h
  split at h<;>first|(rename_i hq _;cases hq;done)|(rename_i hq;cases hq;done)|(rename_i hq _ _;cases hq;done)|(simp_all;done)|skip
  ·refine⟨[],⟨by simp,by simp⟩,rfl,fun j hj=>?_⟩
   have:j=0:=by simp at hj;omega
   subst this
   exact⟨.im0 none 0,rfl⟩
  ·rename_i e' a len cap hq
   cases hq
   simp only at h
   split at h
   ·rename_i hb
    obtain⟨elems,hel,_⟩:=Option.bind_eq_some_iff.1 h
    obtain⟨h1,h2⟩:=J21 _ _ _ hel
    simp only[List.length_range]at h1
    have key:∀i,i<len→∃y:α,ok y∧∀j,j<sz→∃v,w.cell? ((a.add (i*sz)).add j)=some v∧v.oneCell'=true∧∀(hj:j<(e y).length),DRel (FW w) (e y)[j] v:=by
     intro i hi
     have h3:=h2 i (by simpa using hi) (by omega)
     simp only[List.getElem_range]at h3
     obtain⟨ci,hci,htr⟩:=Option.bind_eq_some_iff.1 h3
     rw[hsz]at hci
     obtain⟨h4,h5⟩:=J90 hci
     obtain⟨y,hy,hyl,hyr⟩:=hE fuel ci _ htr
     exact⟨y,hy,fun j hj=>⟨ci.getD j undef,h5 j hj,(hyr j (by rw[hes];exact hj)).2,fun hj'=>(hyr j hj').1⟩⟩
    obtain⟨l,hl,hr⟩:=J3B len key
    refine⟨l,⟨by omega,fun x hx=>?_⟩,rfl,fun j hj=>?_⟩
    ·obtain⟨i,hi⟩:=List.getElem?_of_mem hx
     obtain⟨hi1,hi2⟩:=List.getElem?_eq_some_iff.1 hi
     rw[←hi2];exact(hr i hi1).1
    ·have:j=0:=by simp at hj;omega
     subst this
     refine⟨?_,rfl⟩
     show DRel (FW w) (.im (l.map e)) (.slice (some a) len cap)
     rcases Nat.eq_zero_or_pos len with h0|hpos
     ·subst h0
      have:l=[]:=List.eq_nil_of_length_eq_zero hl
      subst this
      exact .im0 _ _
     ·obtain⟨v0,hv0,_⟩:=(hr 0 (by omega)).2 0 hp
      obtain⟨hs0,c,E,fz,hheap,_⟩:=J45 hv0
      have hb0:=(J23 (a.add (0*sz)) 0).1
      rw[(J23 a (0*sz)).1]at hb0
      rw[hb0]at hheap
      have hsp:a.spot=none:=by simpa[Addr.add]using hs0
      have hcell:∀i (hi:i<l.length) j,j<sz→c[a.off+i*sz+j]? = some (c.getD (a.off+i*sz+j) undef)∧(c.getD (a.off+i*sz+j) undef).oneCell'=true∧∀hj:j<(e l[i]).length,DRel (FW w) (e l[i])[j] (c.getD (a.off+i*sz+j) undef):=by
       intro i hi j hj
       obtain⟨v,hv,ho,hd⟩:=(hr i hi).2 j hj
       obtain⟨_,c',E',fz',hh',hc'⟩:=J45 hv
       have e1:=J23 (a.add (i*sz)) j
       have e2:=J23 a (i*sz)
       rw[e1.1,e2.1,hheap]at hh'
       rw[e1.2,e2.2]at hc'
       cases hh'
       have hg:c.getD (a.off+i*sz+j) undef=v:=by rw[Array.getD_eq_getD_getElem?,hc'];rfl
       rw[hg]
       exact⟨hc',ho,hd⟩
      have ha:a=⟨a.block,a.off,none⟩:=by cases a;simp_all
      have key2:DRel (FW w) (.im (l.map e)) (.slice (some ⟨a.block,a.off,none⟩) (l.map e).length cap):=by
       refine .im _ a.block a.off cap sz c E fz (fun k j=>c.getD (a.off+k*sz+j) undef) hheap (by simp;omega) ?_ ?_ ?_ ?_
       ·intro r hr'
        obtain⟨y,_,rfl⟩:=List.mem_map.1 hr'
        exact hes y
       ·intro k hk j hj
        exact(hcell k (by simpa using hk) j hj).1
       ·intro k hk j hj
        exact(hcell k (by simpa using hk) j hj).2.1
       ·intro k hk j hj
        have hk':k<l.length:=by simpa using hk
        have hj':j<(e l[k]).length:=by simpa using hj
        have:=(hcell k hk' j (by rw[←hes l[k]];exact hj')).2.2 hj'
        simpa using this
      rw[List.length_map,hl,←ha]at key2
      exact key2
   ·cases h
def RdF (en:TypeId×Value→H) (P:Program) (w:World) (base:Nat) (spare:Nat→Bool) (held:Bool) {α:Type} (o:Nat) (fs:List Field) (e:α→List D) (ok:α→Prop):Prop:=
 ∀(fuel:Nat) (cs:List Value) (xs:List (DataW H×List MemPlace)),(fs.mapM fun f=>DataW.trod en P w base spare held fuel f.type ((cs.drop f.offset).take (P.cellsOf f.type)))=some xs→
  ∃y:α,ok y∧∀j (h:j<(e y).length),DRel (FW w) (e y)[j] (cs.getD (o+j) undef)∧(cs.getD (o+j) undef).oneCell'=true
theorem Jav {o:Nat}:RdF en P w base spare held o [] (fun _:Unit=>[]) (fun _=>True):=
 fun _ _ _ _=>⟨(),trivial,fun j h=>by simp at h⟩
theorem J9n {α β:Type} {o s:Nat} {f:Field} {fs:List Field} {e0:α→List D} {e1:β→List D} {ok0:α→Prop} {ok1:β→Prop} (h0:Rd en P w base spare held f.type e0 ok0) (ho:f.offset=o) (hs:∀y,(e0 y).length=s)
  (h1:RdF en P w base spare held (o+s) fs e1 ok1):RdF en P w base spare held o (f::fs) (fun p:α×β=>e0 p.1++e1 p.2) (fun p=>ok0 p.1∧ok1 p.2):=by
 intro fuel cs xs h
 simp only[List.mapM_cons,Option.bind_eq_bind,Option.bind_eq_some_iff,Option.pure_def,Option.some.injEq]at h
 obtain⟨x,hx,xs',hxs,rfl⟩:=h
 obtain⟨y,hy,hyl,hyr⟩:=h0 fuel _ _ hx
 obtain⟨z,hz,hzr⟩:=h1 fuel cs xs' hxs
 refine⟨(y,z),⟨hy,hz⟩,fun j hj=>?_⟩
 by_cases hjs:j<(e0 y).length
 ·have:=hyr j hjs
  have hg:((cs.drop f.offset).take (P.cellsOf f.type)).getD j undef=cs.getD (o+j) undef:=by
   have hlt:j<((cs.drop f.offset).take (P.cellsOf f.type)).length:=by omega
   simp only[List.length_take,List.length_drop]at hlt
   simp only[List.getD,List.getElem?_take,List.getElem?_drop,ho]
   rw[if_pos (by omega)]
  rw[hg]at this
  simpa[List.getElem_append_left hjs]using this
 ·simp only[List.length_append]at hj
  have:=hzr (j-(e0 y).length) (by omega)
  have hidx:o+s+(j-(e0 y).length)=o+j:=by rw[hs y]at hjs ⊢;omega
  rw[hidx]at this
  have hel:(e0 y++e1 z)[j]'(by simp only[List.length_append];exact hj)=(e1 z)[j-(e0 y).length]'(by omega):=List.getElem_append_right (by omega)
  refine⟨?_,this.2⟩
  show DRel (FW w) ((e0 y++e1 z)[j]'(by simp only[List.length_append];exact hj)) _
  rw[hel]
  exact this.1
theorem J8t {α:Type} {t n:Nat} {fs:Array Field} {e:α→List D} {ok:α→Prop} (ht:P.underlying t=some (.struct fs)) (hn:P.cellsOf t=n) (hl:∀y,(e y).length=n) (h:RdF en P w base spare held 0 fs.toList e ok):Rd en P w base spare held t e ok:=by
 intro fuel cs x hx
 cases fuel with
 |zero=>simp[DataW.trod]at hx
 |succ fuel=>
  unfold DataW.trod at hx
  rw[ht]at hx
  split at hx<;>first|(rename_i hq _;cases hq;done)|(rename_i hq;cases hq;done)|(rename_i hq _ _;cases hq;done)|(simp_all;done)|skip
  rename_i hq
  cases hq
  split at hx
  ·rename_i hlen
   obtain⟨xs,hxs,_⟩:=Option.map_eq_some_iff.1 hx
   obtain⟨y,hy,hr⟩:=h fuel _ xs hxs
   exact⟨y,hy,by rw[hl,hlen,hn],fun j hj=>by simpa using hr j hj⟩
  ·cases hx
theorem J0A {α β:Type} {t:TypeId} {e:α→List D} {e':β→List D} {ok:α→Prop} {ok':β→Prop} (g:α→β) (he:∀y,e' (g y)=e y) (hok:∀y,ok y→ok' (g y)) (h:Rd en P w base spare held t e ok):Rd en P w base spare held t e' ok':=by
 intro fuel cs x hx
 obtain⟨y,h1,h2,h3⟩:=h fuel cs x hx
 refine⟨g y,hok y h1,by rw[he];exact h2,fun j hj=>?_⟩
 simp only[he]at hj ⊢
 exact h3 j hj
end rd
end Go.Pm
