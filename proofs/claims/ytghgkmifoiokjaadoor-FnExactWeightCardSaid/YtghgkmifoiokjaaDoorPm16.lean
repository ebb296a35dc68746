/- The abstract machine, sixteenth text: regions whose order is drawn, where no operation turns anything. -/
import Derived.Test.YtghgkmifoiokjaaDoorPm15
import Derived.Orders
set_option linter.unusedVariables false
set_option linter.unusedSimpArgs false
namespace Go.Pm
attribute [local irreducible] AR Ok inBlock andThen endQ aoper

/-- Operations that are known to look at their operands alone. -/
def plainOp : Op → Bool
  | .move _ | .assign _ | .pick _ _ _ | .load _ _ | .fieldAddr _ _ _ | .field _ _ _ | .indexAddr _ _ _ | .index _ _ _ | .binOp _ _ _ _ _ | .unOp _ _ _ | .extract _ _ | .lookup _ _ _ _ | .convert _ _ _ => true
  | .call c => match c.callee with | .value _ => true | .builtin .len => true | _ => false
  | _ => false

/-- What one operation gives, where it turns nothing. -/
def OpAt (X : Cfg) (nt : Nat) (ops : Array Oper) (σ : St) (o : Oper) (env : Env) (r : AV) : Prop :=
  o.dst.all (· < nt) = true ∧
  match o.guard with
  | none => aoper X o.op env σ (fun _ _ _ => False) fun v σ' => σ' = σ ∧ v = r
  | some (j, want) => ∃ d, (ops[j]?).bind (·.dst) = some d ∧ d < nt ∧
      ((env d = .d (.s (.bool want)) ∧ aoper X o.op env σ (fun _ _ _ => False) fun v σ' => σ' = σ ∧ v = r) ∨ (env d = .d (.s (.bool (!want))) ∧ r = .d (.s undef)) ∨ (env d = .d (.s undef) ∧ r = .d (.s undef)))

/-- The operations one behind the other. -/
inductive LR (X : Cfg) (nt : Nat) (ops : Array Oper) (σ : St) : List Oper → Env → Env → Prop
  | nil (E : Env) : LR X nt ops σ [] E E
  | op {o : Oper} {rest : List Oper} {env E : Env} {r : AV} (h : OpAt X nt ops σ o env r) (k : LR X nt ops σ rest (put env o.dst r) E) : LR X nt ops σ (o :: rest) env E

def AD (X : Cfg) (nt : Nat) (ops : Array Oper) (Q : Exit → Env → St → Prop) (σ : St) (rest : List Oper) (env : Env) : Prop := ∃ E, LR X nt ops σ rest env E ∧ Q .normal E σ

/-- The order of the operations is bound where one looks at another. -/
def drawOk (ops : Array Oper) : Bool :=
  (List.range ops.size).all fun i => match ops[i]? with
    | none => false
    | some o => plainOp o.op && o.after.all (fun e => !Region.binds .any e || decide (e.on < i)) &&
      (List.range ops.size).all fun j => match (ops[j]?).bind (·.dst) with
        | none => true
        | some d => (j == i || o.dst != some d) && (!(o.looksAt ops).contains d || o.after.any (fun e => Region.binds .any e && e.on == j) || (match ops[j]? with | none => false | some oj => oj.after.any (fun e => Region.binds .any e && e.on == i)))

section congr
variable {X : Cfg} {env env' : Env}
theorem aev_congr {x : Operand} (h : ∀ t, x = .tmp t → env t = env' t) : aev X env x = aev X env' x := by
  cases x with
  | tmp t => exact h t rfl
  | const v => rfl
  | global g => rfl
  | func f => rfl

theorem aoper_congr {op : Op} {σ : St} {K : AV → St → Prop} (hp : plainOp op = true) (h : ∀ x ∈ op.operands.toList, aev X env x = aev X env' x)
    (ha : aoper X op env σ (fun _ _ _ => False) K) : aoper X op env' σ (fun _ _ _ => False) K := by
  cases op with
  | move x => have e := h x (by simp [Op.operands]); simp only [aoper, aop] at ha ⊢; rw [← e]; exact ha
  | assign x => have e := h x (by simp [Op.operands]); simp only [aoper, aop] at ha ⊢; rw [← e]; exact ha
  | pick c x y =>
    have e1 := h c (by simp [Op.operands]); have e2 := h x (by simp [Op.operands]); have e3 := h y (by simp [Op.operands])
    simp only [aoper, aop] at ha ⊢; rw [← e1, ← e2, ← e3]; exact ha
  | load t x => have e := h x (by simp [Op.operands]); simp only [aoper, aop] at ha ⊢; rw [← e]; exact ha
  | fieldAddr t x f => have e := h x (by simp [Op.operands]); simp only [aoper, aop] at ha ⊢; rw [← e]; exact ha
  | field t x f => have e := h x (by simp [Op.operands]); simp only [aoper, aop] at ha ⊢; rw [← e]; exact ha
  | indexAddr t x y => have e1 := h x (by simp [Op.operands]); have e2 := h y (by simp [Op.operands]); simp only [aoper, aop] at ha ⊢; rw [← e1, ← e2]; exact ha
  | index t x y => have e1 := h x (by simp [Op.operands]); have e2 := h y (by simp [Op.operands]); simp only [aoper, aop] at ha ⊢; rw [← e1, ← e2]; exact ha
  | binOp o t x y z => have e1 := h x (by simp [Op.operands]); have e2 := h y (by simp [Op.operands]); simp only [aoper, aop] at ha ⊢; rw [← e1, ← e2]; exact ha
  | unOp o t x => have e := h x (by simp [Op.operands]); simp only [aoper, aop] at ha ⊢; rw [← e]; exact ha
  | extract x i => have e := h x (by simp [Op.operands]); simp only [aoper, aop] at ha ⊢; rw [← e]; exact ha
  | lookup t x y k => have e1 := h x (by simp [Op.operands]); have e2 := h y (by simp [Op.operands]); simp only [aoper, aop] at ha ⊢; rw [← e1, ← e2]; exact ha
  | convert s d x => have e := h x (by simp [Op.operands]); simp only [aoper, aop] at ha ⊢; rw [← e]; exact ha
  | call c =>
    obtain ⟨callee, args, tys⟩ := c
    cases callee with
    | value f =>
      have e1 := h f (by simp [Op.operands, Call.operands])
      have e2 : args.toList.map (aev X env) = args.toList.map (aev X env') := List.map_congr_left fun x hx => h x (by simp [Op.operands, Call.operands]; right; simpa using hx)
      simp only [aoper] at ha ⊢
      rw [← e1, ← e2]
      unfold acallee at ha ⊢
      split at ha
      · exact ha
      · exact ha
      · exact ha
    | builtin b =>
      cases b <;> first | (simp [plainOp] at hp; done) | skip
      have e2 : ∀ x ∈ args.toList, aev X env x = aev X env' x := fun x hx => h x (by simp [Op.operands, Call.operands]; simpa using hx)
      simp only [aoper, abuiltin] at ha ⊢
      split at ha
      · rename_i h0 h1 _; simp only [h1] at e2 ⊢; rw [← e2 _ (by simp)]; exact ha
      all_goals first | exact False.elim ha | contradiction | (exfalso; simp_all; done)
    | invoke r m => simp [plainOp] at hp
  | _ => simp [plainOp] at hp

theorem opAt_congr {nt : Nat} {ops : Array Oper} {σ : St} {o : Oper} {r : AV} (hp : plainOp o.op = true) (h : ∀ t ∈ o.looksAt ops, env t = env' t) (ha : OpAt X nt ops σ o env r) : OpAt X nt ops σ o env' r := by
  have hops : ∀ x ∈ o.op.operands.toList, aev X env x = aev X env' x := by
    intro x hx
    refine aev_congr fun t ht => h t ?_
    subst ht
    simp only [Oper.looksAt, List.mem_append, List.mem_filterMap]
    exact .inl ⟨_, hx, rfl⟩
  obtain ⟨hd, ha⟩ := ha
  refine ⟨hd, ?_⟩
  cases hgd : o.guard with
  | none => simp only [hgd] at ha ⊢; exact aoper_congr hp hops ha
  | some jw =>
    obtain ⟨j, want⟩ := jw
    simp only [hgd] at ha ⊢
    obtain ⟨d, hj, hn, ha⟩ := ha
    have hed : env d = env' d := h d (by simp only [Oper.looksAt, hgd, hj, List.mem_append]; right; simp)
    refine ⟨d, hj, hn, ?_⟩
    rw [← hed]
    rcases ha with ⟨h1, h2⟩ | h1 | h1
    · exact .inl ⟨h1, aoper_congr hp hops h2⟩
    · exact .inr (.inl h1)
    · exact .inr (.inr h1)
end congr

/-- What is known of each operation of a run in the order of the text. -/
theorem LR.facts {X : Cfg} {nt : Nat} {ops : Array Oper} {σ : St} : ∀ {l : List Oper} {env E : Env}, LR X nt ops σ l env E →
    (∀ (i j : Nat) (oi oj : Oper) (d : Nat), i ≠ j → l[i]? = some oi → l[j]? = some oj → oi.dst = some d → oj.dst ≠ some d) →
    (∀ t, (∀ o ∈ l, o.dst ≠ some t) → E t = env t) ∧
    ∀ (k : Nat) (o : Oper), l[k]? = some o → ∃ e r, OpAt X nt ops σ o e r ∧ (∀ d, o.dst = some d → E d = r) ∧ (∀ t, (∀ (j : Nat) (oj : Oper), j < k → l[j]? = some oj → oj.dst ≠ some t) → e t = env t) ∧ (∀ (j : Nat) (oj : Oper) (t : Nat), j < k → l[j]? = some oj → oj.dst = some t → e t = E t)
  | [], env, E, h, _ => by
    cases h
    exact ⟨fun _ _ => rfl, fun k o h => by simp at h⟩
  | o :: rest, env, E, h, hd => by
    cases h with
    | @op _ _ _ _ r h k =>
      obtain ⟨h1, h2⟩ := k.facts fun i j oi oj d hij hi hj => hd (i + 1) (j + 1) oi oj d (by omega) (by simpa using hi) (by simpa using hj)
      have hfst : ∀ d, o.dst = some d → E d = r := by
        intro d hod
        rw [h1 d fun o' ho' => ?_]
        · simp [put, hod]
        · obtain ⟨j, hj⟩ := List.getElem?_of_mem ho'
          exact hd 0 (j + 1) o o' d (by omega) (by simp) (by simpa using hj) hod
      have hput : ∀ t, o.dst ≠ some t → put env o.dst r t = env t := by
        intro t ht
        cases hod : o.dst with
        | none => rfl
        | some d => simp only [put]; rw [if_neg (by intro e; subst e; exact ht hod)]
      refine ⟨fun t ht => ?_, fun k' o' hk' => ?_⟩
      · rw [h1 t fun o' ho' => ht o' (by simp [ho'])]
        exact hput t (ht o (by simp))
      · cases k' with
        | zero =>
          simp only [List.getElem?_cons_zero, Option.some.injEq] at hk'
          subst hk'
          exact ⟨env, r, h, hfst, fun _ _ => rfl, fun j oj t hj => by omega⟩
        | succ k' =>
          obtain ⟨e, r', a1, a2, a3, a4⟩ := h2 k' o' (by simpa using hk')
          refine ⟨e, r', a1, a2, fun t ht => ?_, fun j oj t hj hoj hot => ?_⟩
          · rw [a3 t fun j oj hj hoj => ht (j + 1) oj (by omega) (by simpa using hoj)]
            exact hput t (ht 0 o (by omega) (by simp))
          · cases j with
            | zero =>
              simp only [List.getElem?_cons_zero, Option.some.injEq] at hoj
              subst hoj
              have hno : ∀ o'' ∈ rest, o''.dst ≠ some t := fun o'' ho'' => by
                obtain ⟨j, hj⟩ := List.getElem?_of_mem ho''
                exact hd 0 (j + 1) o o'' t (by omega) (by simp) (by simpa using hj) hot
              rw [a3 t (fun j oj _ hoj => hno oj (List.mem_of_getElem? hoj)), h1 t hno]
            | succ j => exact a4 j oj t (by omega) (by simpa using hoj) hot

theorem drawOk_spec {ops : Array Oper} (h : drawOk ops = true) {i : Nat} {o : Oper} (ho : ops[i]? = some o) : plainOp o.op = true ∧ (∀ e ∈ o.after, Region.binds .any e = true → e.on < i) ∧
    ∀ (j : Nat) (oj : Oper) (d : Nat), ops[j]? = some oj → oj.dst = some d → (j ≠ i → o.dst ≠ some d) ∧ (d ∈ o.looksAt ops → (∃ e ∈ o.after, Region.binds .any e = true ∧ e.on = j) ∨ ∃ e ∈ oj.after, Region.binds .any e = true ∧ e.on = i) := by
  have hi : i < ops.size := (Array.getElem?_eq_some_iff.1 ho).1
  have h1 := List.all_eq_true.1 h i (List.mem_range.2 hi)
  simp only [ho, Bool.and_eq_true] at h1
  obtain ⟨⟨h2, h3⟩, h4⟩ := h1
  refine ⟨h2, fun e he hb => ?_, fun j oj d hj hd => ?_⟩
  · have := Array.all_eq_true_iff_forall_mem.1 h3 e he
    simpa [hb] using this
  · have hjs : j < ops.size := (Array.getElem?_eq_some_iff.1 hj).1
    have := List.all_eq_true.1 h4 j (List.mem_range.2 hjs)
    simp only [hj, Option.bind_some, hd, Bool.and_eq_true, Bool.or_eq_true, beq_iff_eq, bne_iff_ne, ne_eq, Bool.not_eq_true', List.contains_eq_mem, decide_eq_false_iff_not] at this
    refine ⟨fun hne => this.1.resolve_left hne, fun hm => ?_⟩
    rcases this.2 with (h5 | h5) | h5
    · exact absurd hm h5
    · obtain ⟨k, hk, hb⟩ := Array.any_eq_true.1 h5
      have he : o.after[k] ∈ o.after := Array.getElem_mem hk
      generalize o.after[k] = e at he hb
      simp only [Bool.and_eq_true, beq_iff_eq] at hb
      exact .inl ⟨e, he, hb.1, hb.2⟩
    · obtain ⟨k, hk, hb⟩ := Array.any_eq_true.1 h5
      have he : oj.after[k] ∈ oj.after := Array.getElem_mem hk
      generalize oj.after[k] = e at he hb
      simp only [Bool.and_eq_true, beq_iff_eq] at hb
      exact .inr ⟨e, he, hb.1, hb.2⟩

theorem mem_ready' {ops : Array Oper} {listed : Array Bool} {i : Nat} (h : i ∈ Region.ready .any ops listed) : i < ops.size ∧ listed.getD i true = false ∧ ∃ o, ops[i]? = some o ∧ ∀ e ∈ o.after, Region.binds .any e = true → listed.getD e.on false = true := by
  simp only [Region.ready, List.mem_filter, List.mem_range, Bool.and_eq_true, Bool.not_eq_true'] at h
  obtain ⟨h1, h2, h3⟩ := h
  refine ⟨h1, h2, ops[i], by simp [h1], fun e he hb => ?_⟩
  simp only [h1, Array.getElem?_eq_getElem, Option.map_some, Option.getD_some] at h3
  have := Array.all_eq_true_iff_forall_mem.1 h3 e he
  simpa [hb] using this

/-- Every operation that is not yet done would be ready once those before it are. -/
theorem ready_nil {ops : Array Oper} (h : drawOk ops = true) {listed : Array Bool} (hl : listed.size = ops.size) (hr : Region.ready .any ops listed = []) : ∀ i, i < ops.size → listed.getD i true = true := by
  intro i
  induction i using Nat.strongRecOn with
  | _ i ih =>
    intro hi
    cases hc : listed.getD i true with
    | true => rfl
    | false =>
      exfalso
      have : i ∈ Region.ready .any ops listed := by
        simp only [Region.ready, List.mem_filter, List.mem_range, hi, true_and, hc, Bool.not_false, Bool.true_and, Array.getElem?_eq_getElem, Option.map_some, Option.getD_some]
        refine Array.all_eq_true_iff_forall_mem.2 fun e he => ?_
        cases hb : Region.binds .any e with
        | false => rfl
        | true =>
          have hlt := (drawOk_spec h (i := i) (o := ops[i]) (by simp [hi])).2.1 e he hb
          have := ih e.on hlt (by omega)
          simp only [Bool.not_true, Bool.false_or]
          have hsz : e.on < listed.size := by omega
          simpa [Array.getD, hsz] using this
      rw [hr] at this
      cases this

theorem ok_draw {X : Cfg} {nt id : Nat} {ops : Array Oper} {Q : Exit → Env → St → Prop} {env : Env} {σ : St} (hm : X.P.follows .mixedOrders = true) (hc : drawOk ops = true) (h : AD X nt ops Q σ ops.toList env) :
    Ok X nt (.region id ops true) Q env σ := by
  unfold Ok
  intro F0 η0 a0 w0 hg0 hr0
  obtain ⟨E, hlr, hQ⟩ := h
  obtain ⟨hbase, hfacts⟩ := hlr.facts fun i j oi oj d hij hi hj hdi hdj => by
    simp only [Array.getElem?_toList] at hi hj
    exact ((drawOk_spec hc hi).2.2 j oj d hj hdj).1 (Ne.symm hij) hdi
  refine wp_region_any hm ?_
  have key : ∀ (fuel : Nat) (listed : Array Bool) (cur : Env) (F : FH) (η : Et) (a : Act) (w : World), listed.size = ops.size → (fuel = 0 → ∀ i, i < ops.size → listed.getD i true = true) →
      (∀ i, i < ops.size → listed.getD i true = false → True) → ((List.range ops.size).filter (fun i => !listed.getD i true)).length ≤ fuel →
      Step F0 η0 σ w0 F η σ w → GRel X F → Rel F η nt cur σ a w →
      (∀ t, (∀ i o, ops[i]? = some o → listed.getD i true = true → o.dst ≠ some t) → cur t = env t) → (∀ i o, ops[i]? = some o → listed.getD i true = true → ∀ e ∈ o.after, Region.binds .any e = true → listed.getD e.on false = true) → (∀ i o t, ops[i]? = some o → listed.getD i true = true → o.dst = some t → cur t = E t) →
      wpAny X.P .any ops (Post X nt F0 η0 σ w0 Q) fuel listed a w := by
    intro fuel
    induction fuel with
    | zero =>
      intro listed cur F η a w hls h0 _ hlen hs hg hr hb hcl hl
      have hall := h0 rfl
      have hE : cur = E := by
        funext t
        by_cases ht : ∀ o ∈ ops.toList, o.dst ≠ some t
        · rw [hb t (fun i o hi _ => ht o (by simpa using Array.mem_of_getElem? hi)), hbase t ht]
        · have ⟨o, ho, hot⟩ : ∃ o, o ∈ ops.toList ∧ o.dst = some t := by
            apply Classical.byContradiction
            intro hno
            exact ht fun o ho hot => hno ⟨o, ho, hot⟩
          obtain ⟨i, hi⟩ := List.getElem?_of_mem ho
          simp only [Array.getElem?_toList] at hi
          exact hl i o t hi (hall i (Array.getElem?_eq_some_iff.1 hi).1) hot
      subst hE
      refine ⟨?_, ⟨F, η, cur, σ, hs, hg, hr, hQ⟩⟩
      cases hrd : Region.ready .any ops listed with
      | nil => rfl
      | cons i rest =>
        obtain ⟨h1, h2, _⟩ := mem_ready' (ops := ops) (listed := listed) (i := i) (by rw [hrd]; simp)
        rw [hall i h1] at h2; cases h2
    | succ fuel ih =>
      intro listed cur F η a w hls h0 _ hlen hs hg hr hb hcl hl
      refine ⟨fun hnil => ?_, fun i hi => ?_⟩
      · have hall := ready_nil hc hls hnil
        have hE : cur = E := by
          funext t
          by_cases ht : ∀ o ∈ ops.toList, o.dst ≠ some t
          · rw [hb t (fun i o hi _ => ht o (by simpa using Array.mem_of_getElem? hi)), hbase t ht]
          · have ⟨o, ho, hot⟩ : ∃ o, o ∈ ops.toList ∧ o.dst = some t := by
              apply Classical.byContradiction
              intro hno
              exact ht fun o ho hot => hno ⟨o, ho, hot⟩
            obtain ⟨i, hi⟩ := List.getElem?_of_mem ho
            simp only [Array.getElem?_toList] at hi
            exact hl i o t hi (hall i (Array.getElem?_eq_some_iff.1 hi).1) hot
        subst hE
        exact ⟨F, η, cur, σ, hs, hg, hr, hQ⟩
      · obtain ⟨hin, hun, o, ho, hdep⟩ := mem_ready' hi
        obtain ⟨hpl, hbef, hlook⟩ := drawOk_spec hc ho
        obtain ⟨e, r, hat, hEr, hebase, hedone⟩ := hfacts i o (by simpa using ho)
        have hat' : OpAt X nt ops σ o cur r := by
          refine opAt_congr hpl (fun t ht => ?_) hat
          by_cases hw : ∀ o ∈ ops.toList, o.dst ≠ some t
          · rw [hebase t (fun j oj _ hoj => hw oj (List.mem_of_getElem? hoj)), hb t (fun i o hi _ => hw o (by simpa using Array.mem_of_getElem? hi))]
          · have ⟨oj, hoj, hot⟩ : ∃ o, o ∈ ops.toList ∧ o.dst = some t := by
              apply Classical.byContradiction
              intro hno
              exact hw fun o ho hot => hno ⟨o, ho, hot⟩
            obtain ⟨j, hj⟩ := List.getElem?_of_mem hoj
            simp only [Array.getElem?_toList] at hj
            rcases (hlook j oj t hj hot).2 ht with ⟨ed, hed, hbd, hon⟩ | ⟨ed, hed, hbd, hon⟩
            · have hlt := hbef ed hed hbd
              have hjl := hdep ed hed hbd
              rw [hon] at hlt hjl
              rw [hedone j oj t hlt (by simpa using hj) hot]
              refine (hl j oj t hj ?_ hot).symm
              have hjs : j < listed.size := by rw [hls]; exact (Array.getElem?_eq_some_iff.1 hj).1
              simpa [Array.getD, hjs] using hjl
            · have hlt := (drawOk_spec hc hj).2.1 ed hed hbd
              rw [hon] at hlt
              have hone : ∀ (j' : Nat) (oj' : Oper), ops[j']? = some oj' → oj'.dst = some t → j' = j := fun j' oj' hj' hot' =>
                Classical.byContradiction fun hne => ((drawOk_spec hc hj').2.2 j oj t hj hot).1 (Ne.symm hne) hot'
              have hju : ¬ listed.getD j true = true := fun hjl => by
                have h6 := hcl j oj hj hjl ed hed hbd
                rw [hon] at h6
                have hil : i < listed.size := by omega
                simp only [Array.getD, hil, dif_pos] at h6 hun
                rw [h6] at hun; cases hun
              rw [hebase t (fun j' oj' hj'k hoj' hot' => by have := hone j' oj' (by simpa using hoj') hot'; omega), hb t (fun j' oj' hoj' hjl hot' => by have := hone j' oj' hoj' hot'; subst this; exact hju hjl)]
        -- once the operation is done
        have next : ∀ (F' : FH) (η' : Et) (v : Value) (w' : World), Step F η σ w F' η' σ w' → GRel X F' → Rel F' η' nt cur σ a w' → VRel F' η' σ.next r v →
            wpAny X.P .any ops (Post X nt F0 η0 σ w0 Q) fuel (listed.setIfInBounds i true) (a.put o.dst v) w' := by
          intro F' η' v w' s1 g1 r1 hv
          have hset : ∀ k, (listed.setIfInBounds i true).getD k true = if k = i then true else listed.getD k true := by
            intro k
            simp only [Array.getD_eq_getD_getElem?, Array.getElem?_setIfInBounds]
            by_cases hki : k = i
            · subst hki; simp [hls, hin]
            · rw [if_neg (Ne.symm hki), if_neg hki]
          have hfewer : ((List.range ops.size).filter (fun k => !(listed.setIfInBounds i true).getD k true)).length < ((List.range ops.size).filter (fun k => !listed.getD k true)).length := by
            have hsub : (List.range ops.size).filter (fun k => !(listed.setIfInBounds i true).getD k true) = ((List.range ops.size).filter (fun k => !listed.getD k true)).filter (fun k => k != i) := by
              rw [List.filter_filter]
              refine List.filter_congr fun k _ => ?_
              rw [hset k]
              by_cases hki : k = i
              · simp [hki]
              · simp [hki]
            rw [hsub]
            refine List.length_filter_lt_length_iff_exists.2 ⟨i, ?_, by simp⟩
            simp only [List.mem_filter, List.mem_range, Bool.not_eq_true']
            exact ⟨hin, hun⟩
          refine ih _ (put cur o.dst r) F' η' _ w' (by simp [hls]) ?_ (fun _ _ _ => trivial) (by omega) (hs.trans s1) g1 (r1.put hat'.1 hv) ?_ ?_ ?_
          · intro hf k hk
            subst hf
            rw [hset k]
            by_cases hki : k = i
            · rw [if_pos hki]
            · rw [if_neg hki]
              cases hck : listed.getD k true with
              | true => rfl
              | false =>
                exfalso
                have hkm : k ∈ (List.range ops.size).filter (fun k => !(listed.setIfInBounds i true).getD k true) := by
                  simp only [List.mem_filter, List.mem_range, Bool.not_eq_true', hset k, if_neg hki]
                  exact ⟨hk, hck⟩
                have := List.length_pos_of_mem hkm
                omega
          · intro t ht
            have hne := ht i o ho (by rw [hset i, if_pos rfl])
            have hb' := hb t (fun i' o' hi' hl' => ht i' o' hi' (by rw [hset i']; split <;> first | rfl | exact hl'))
            cases hod : o.dst with
            | none => exact hb'
            | some d => simp only [put]; rw [if_neg (by intro e; subst e; exact hne hod)]; exact hb'
          · intro k ok hk hkl e he hbe
            have hold : listed.getD e.on false = true := by
              by_cases hki : k = i
              · subst hki
                rw [ho] at hk
                cases hk
                exact hdep e he hbe
              · rw [hset k, if_neg hki] at hkl
                exact hcl k ok hk hkl e he hbe
            simp only [Array.getD_eq_getD_getElem?, Array.getElem?_setIfInBounds] at hold ⊢
            by_cases hei : i = e.on
            · subst hei; simp [hls, hin]
            · rw [if_neg hei]; exact hold
          · intro k ok t hk hkl hkt
            by_cases hki : k = i
            · subst hki
              rw [ho] at hk
              simp only [Option.some.injEq] at hk
              subst hk
              rw [hkt]
              simp only [put, if_true]
              exact (hEr t hkt).symm
            · rw [hset k, if_neg hki] at hkl
              have hne : o.dst ≠ some t := ((drawOk_spec hc ho).2.2 k ok t hk hkt).1 hki
              have : put cur o.dst r t = cur t := by
                cases hod : o.dst with
                | none => rfl
                | some d => simp only [put]; rw [if_neg (by intro e; subst e; exact hne hod)]
              rw [this]
              exact hl k ok t hk hkl hkt
        have done : (aoper X o.op cur σ (fun _ _ _ => False) fun v σ' => σ' = σ ∧ v = r) → o.wp X.P a w (wpAny X.P .any ops (Post X nt F0 η0 σ w0 Q) fuel (listed.setIfInBounds i true)) (Post X nt F0 η0 σ w0 Q) := by
          intro hop
          refine aoper_okK hg hr hat'.1 hop ?_ ?_
          · rintro F' η' x v σ' w' s1 g1 r1 hv ⟨rfl, rfl⟩
            exact next F' η' v w' s1 g1 r1 hv
          · intro ch F' η' σ' w' _ _ _ hf
            exact hf.elim
        have skip : r = .d (.s undef) → wpAny X.P .any ops (Post X nt F0 η0 σ w0 Q) fuel (listed.setIfInBounds i true) (a.put o.dst undef) w := by
          intro hru
          exact next F η undef w (.refl _ _ _ _) hg hr (by rw [hru]; exact .d (.s _))
        unfold wpOp
        simp only [ho]
        obtain ⟨_, hat'⟩ := hat'
        cases hgd : o.guard with
        | none =>
          simp only [hgd] at hat'
          rw [if_pos (by simp [Region.wanted, hgd])]
          exact .inl (done hat')
        | some jw =>
          obtain ⟨j, want⟩ := jw
          simp only [hgd] at hat'
          obtain ⟨d, hjd, hdn, hat'⟩ := hat'
          rcases hat' with ⟨h1, h2⟩ | ⟨h1, h2⟩ | ⟨h1, h2⟩
          · obtain ⟨hy1, hy2⟩ := yielded_of hr hjd hdn h1
            have hy : yielded ops a.tmps j = some want := by unfold yielded; rw [hy1, Option.bind_some, hy2]
            rw [if_pos (by simp [Region.wanted, hgd, hy])]
            exact .inl (done h2)
          · obtain ⟨hy1, hy2⟩ := yielded_of hr hjd hdn h1
            have hy : yielded ops a.tmps j = some (!want) := by unfold yielded; rw [hy1, Option.bind_some, hy2]
            rw [if_neg (by simp [Region.wanted, hgd, hy])]
            exact skip h2
          · obtain ⟨hy1, hy2⟩ := yielded_of hr hjd hdn h1
            have hy : yielded ops a.tmps j = none := by unfold yielded; rw [hy1, Option.bind_some, hy2]; rfl
            rw [if_neg (by simp [Region.wanted, hgd, hy])]
            exact skip h2
  refine key ops.size _ env F0 η0 a0 _ (by simp) ?_ (fun _ _ _ => trivial) ?_ Step.drew hg0 ⟨hr0.fr.drew, hr0.st.drew, hr0.en, hr0.sz, hr0.df⟩ (fun _ _ => rfl) ?_ ?_
  · intro h0 i hi; omega
  · exact Nat.le_trans (List.length_filter_le _ _) (by simp)
  · intro i o hi hl
    have his := (Array.getElem?_eq_some_iff.1 hi).1
    simp [Array.getD, his] at hl
  · intro i o t hi hl
    have his := (Array.getElem?_eq_some_iff.1 hi).1
    simp [Array.getD, his] at hl
end Go.Pm
