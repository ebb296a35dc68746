/- The abstract machine, fourteenth text: one operation of a region at a time. -/
import Derived.Test.YtghgkmifoiokjaaDoorPm13
set_option linter.unusedVariables false
set_option linter.unusedSimpArgs false
namespace Go.Pm

/-- The rest of a region does what is asked. -/
def AR (X : Cfg) (nt : Nat) (ops : Array Oper) (Q : Exit → Env → St → Prop) (rest : List Oper) (env : Env) (σ : St) : Prop :=
  ∀ (F : FH) (η : Et) (a : Act) (w : World), GRel X F → Rel F η nt env σ a w → wpList X.P ops (Post X nt F η σ w Q) rest a w

theorem blt_lt {a b : Nat} (h : Nat.blt a b = true) : a < b := by rwa [Nat.blt_eq] at h

section regs
variable {X : Cfg} {nt : Nat} {ops : Array Oper} {rest : List Oper} {Q : Exit → Env → St → Prop} {K : AV → St → Prop} {env : Env} {σ σ' : St} {dst : Option Tmp} {op : Op} {ty : TypeId} {pos : String} {after : Array Edge} {j d : Nat} {b want : Bool} {r : AV}

theorem ok_reg {id : Nat} (h : AR X nt ops Q ops.toList env σ) : Ok X nt (.region id ops false) Q env σ :=
  fun F η a w hg hr => wp_region_list (h F η a w hg hr)

theorem ar_nil (h : Q .normal env σ) : AR X nt ops Q [] env σ :=
  fun F η a w hg hr => ⟨F, η, env, σ, .refl _ _ _ _, hg, hr, h⟩

theorem ar_turn {env' : Env} (t : Turn X nt env σ env' σ') (h : AR X nt ops Q rest env' σ') : AR X nt ops Q rest env σ := by
  intro F η a w hg hr
  obtain ⟨F1, η1, s1, g1, r1⟩ := t F η a w hg hr
  exact wpList_mono (fun _ _ _ hp => hp.of_step s1) _ _ _ (h F1 η1 a w g1 r1)

theorem go_wp {F : FH} {η : Et} {a : Act} {w : World} {o : Oper} (hg : GRel X F) (hr : Rel F η nt env σ a w) (hd : o.dst.all (· < nt) = true) (h : aoper X o.op env σ Q (fun v σ' => AR X nt ops Q rest (put env o.dst v) σ')) :
    o.wp X.P a w (wpList X.P ops (Post X nt F η σ w Q) rest) (Post X nt F η σ w Q) := by
  refine aoper_ok hg hr hd h ?_
  intro F' η' x v σ' w' hs hg' hr' hv hk
  exact wpList_mono (fun _ _ _ hp => hp.of_step hs) rest _ _ (hk F' η' (a.put o.dst v) w' hg' (hr'.put hd hv))

theorem ar_none (hd : dst.all (· < nt) = true) (h : aoper X op env σ Q (fun v σ' => AR X nt ops Q rest (put env dst v) σ')) : AR X nt ops Q (⟨dst, op, ty, pos, after, none⟩ :: rest) env σ := by
  intro F η a w hg hr
  unfold wpList
  rw [if_pos (by simp [Region.wanted])]
  exact .inl (go_wp (o := ⟨dst, op, ty, pos, after, none⟩) hg hr hd h)

theorem yielded_of {F : FH} {η : Et} {a : Act} {w : World} (hr : Rel F η nt env σ a w) (hj : (ops[j]?).bind (·.dst) = some d) (hn : d < nt) {v : Value} (hb : env d = .d (.s v)) :
    (ops[j]?).bind (·.dst) = some d ∧ a.tmps[d]? = some v := by
  refine ⟨hj, ?_⟩
  have hen := hr.en d
  rw [hb] at hen
  have hv := hen.s_inv
  have hlt : d < a.tmps.size := by rw [hr.sz]; exact hn
  have hget : a.tmps[d]? = some (a.tmps.getD d undef) := by simp [hlt, Array.getD]
  rw [hget, hv]

/-- A guard that holds. -/
theorem ar_hold (hj : (ops[j]?).bind (·.dst) = some d) (hn : d < nt) (hb : env d = .d (.s (.bool want))) (hd : dst.all (· < nt) = true) (h : aoper X op env σ Q (fun v σ' => AR X nt ops Q rest (put env dst v) σ')) :
    AR X nt ops Q (⟨dst, op, ty, pos, after, some (j, want)⟩ :: rest) env σ := by
  intro F η a w hg hr
  obtain ⟨h1, h2⟩ := yielded_of hr hj hn hb
  have hy : yielded ops a.tmps j = some want := by unfold yielded; rw [h1, Option.bind_some, h2]
  unfold wpList
  rw [if_pos (by simp [Region.wanted, hy])]
  exact .inl (go_wp (o := ⟨dst, op, ty, pos, after, some (j, want)⟩) hg hr hd h)
/-- A guard that doesn't hold. -/
theorem ar_skip (hj : (ops[j]?).bind (·.dst) = some d) (hn : d < nt) (hb : env d = .d (.s (.bool b))) (hne : b = !want) (hd : dst.all (· < nt) = true)
    (h : AR X nt ops Q rest (put env dst (.d (.s undef))) σ) : AR X nt ops Q (⟨dst, op, ty, pos, after, some (j, want)⟩ :: rest) env σ := by
  intro F η a w hg hr
  obtain ⟨h1, h2⟩ := yielded_of hr hj hn hb
  have hy : yielded ops a.tmps j = some b := by unfold yielded; rw [h1, Option.bind_some, h2]
  unfold wpList
  rw [if_neg (by simp [Region.wanted, hy, hne])]
  exact h F η (a.put dst undef) w hg (hr.put hd (.d (.s _)))
/-- A guard that looks at what was skipped. -/
theorem ar_undef (hj : (ops[j]?).bind (·.dst) = some d) (hn : Nat.blt d nt = true) (hb : env d = .d (.s undef)) (hd : dst.all (· < nt) = true)
    (h : AR X nt ops Q rest (put env dst (.d (.s undef))) σ) : AR X nt ops Q (⟨dst, op, ty, pos, after, some (j, want)⟩ :: rest) env σ := by
  intro F η a w hg hr
  obtain ⟨h1, h2⟩ := yielded_of hr hj (blt_lt hn) hb
  have hy : yielded ops a.tmps j = none := by unfold yielded; rw [h1, Option.bind_some, h2]; rfl
  unfold wpList
  rw [if_neg (by simp [Region.wanted, hy])]
  exact h F η (a.put dst undef) w hg (hr.put hd (.d (.s _)))
/-- A guard that is decided by what is known. -/
theorem ar_hold2 (hj : (ops[j]?).bind (·.dst) = some d) (hn : Nat.blt d nt = true) (hb : env d = .d (.s (.bool b))) (hd : dst.all (· < nt) = true) (hw : b = want) (h : aoper X op env σ Q (fun v σ' => AR X nt ops Q rest (put env dst v) σ')) :
    AR X nt ops Q (⟨dst, op, ty, pos, after, some (j, want)⟩ :: rest) env σ := by subst hw; exact ar_hold hj (blt_lt hn) hb hd h
theorem ar_skip_t (hj : (ops[j]?).bind (·.dst) = some d) (hn : Nat.blt d nt = true) (hb : env d = .d (.s (.bool b))) (hd : dst.all (· < nt) = true) (hw : b = false) (h : AR X nt ops Q rest (put env dst (.d (.s undef))) σ) :
    AR X nt ops Q (⟨dst, op, ty, pos, after, some (j, true)⟩ :: rest) env σ := by subst hw; exact ar_skip hj (blt_lt hn) hb rfl hd h
theorem ar_skip_f (hj : (ops[j]?).bind (·.dst) = some d) (hn : Nat.blt d nt = true) (hb : env d = .d (.s (.bool b))) (hd : dst.all (· < nt) = true) (hw : b = true) (h : AR X nt ops Q rest (put env dst (.d (.s undef))) σ) :
    AR X nt ops Q (⟨dst, op, ty, pos, after, some (j, false)⟩ :: rest) env σ := by subst hw; exact ar_skip hj (blt_lt hn) hb rfl hd h
/-- A guard that is not decided. -/
theorem ar_split_t (hj : (ops[j]?).bind (·.dst) = some d) (hn : Nat.blt d nt = true) (hb : env d = .d (.s (.bool b))) (hd : dst.all (· < nt) = true)
    (h1 : b = true → aoper X op env σ Q (fun v σ' => AR X nt ops Q rest (put env dst v) σ')) (h2 : b = false → AR X nt ops Q rest (put env dst (.d (.s undef))) σ) : AR X nt ops Q (⟨dst, op, ty, pos, after, some (j, true)⟩ :: rest) env σ := by
  cases b
  · exact ar_skip hj (blt_lt hn) hb rfl hd (h2 rfl)
  · exact ar_hold hj (blt_lt hn) hb hd (h1 rfl)
theorem ar_split_f (hj : (ops[j]?).bind (·.dst) = some d) (hn : Nat.blt d nt = true) (hb : env d = .d (.s (.bool b))) (hd : dst.all (· < nt) = true)
    (h1 : b = false → aoper X op env σ Q (fun v σ' => AR X nt ops Q rest (put env dst v) σ')) (h2 : b = true → AR X nt ops Q rest (put env dst (.d (.s undef))) σ) : AR X nt ops Q (⟨dst, op, ty, pos, after, some (j, false)⟩ :: rest) env σ := by
  cases b
  · exact ar_hold hj (blt_lt hn) hb hd (h1 rfl)
  · exact ar_skip hj (blt_lt hn) hb rfl hd (h2 rfl)

theorem op_pick {c x y : Operand} {u v : AV} (hc : aev X env c = .d (.s (.bool b))) (hx : (aev X env x).force = some u) (hy : (aev X env y).force = some v) (h1 : b = true → K u σ)
    (h2 : b = false → K v σ) : aoper X (.pick c x y) env σ Q K := by
  rw [← force_eq hx] at h1
  rw [← force_eq hy] at h2
  cases b
  · exact ⟨false, hc, h2 rfl⟩
  · exact ⟨true, hc, h1 rfl⟩
theorem op_pick_t {c x y : Operand} {u : AV} (hc : aev X env c = .d (.s (.bool b))) (hb : b = true) (hx : (aev X env x).force = some u) (h1 : K u σ) : aoper X (.pick c x y) env σ Q K :=
  ⟨true, by rw [← hb]; exact hc, by rw [← force_eq hx] at h1; exact h1⟩
theorem op_pick_f {c x y : Operand} {u : AV} (hc : aev X env c = .d (.s (.bool b))) (hb : b = false) (hx : (aev X env y).force = some u) (h1 : K u σ) : aoper X (.pick c x y) env σ Q K :=
  ⟨false, by rw [← hb]; exact hc, by rw [← force_eq hx] at h1; exact h1⟩

/-- An operation that computes. -/
theorem op_step (h : astep X env σ op = some (r, σ')) (hk : K r σ') : aoper X op env σ Q K := astep_ok h hk

theorem wrap_id {n : Int} (h : -9223372036854775808 ≤ n) (h' : n ≤ 9223372036854775807) : IntKind.i64.wrap n = n := by
  rw [IntKind.wrap_i64]; omega

theorem op_bin {t ty : TypeId} {x y : Operand} {o : BinOp} {u v r : Value} (hx : aev X env x = .d (.s u)) (hy : aev X env y = .d (.s v)) (h : abin o u v = some r) (hk : K (.d (.s r)) σ) :
    aoper X (.binOp o t x y ty) env σ Q K := by
  simp only [aoper, aop, abinop, hx, hy, h]
  exact hk
theorem op_add {t ty : TypeId} {x y : Operand} {m n : Int} (hx : aev X env x = vi m) (hy : aev X env y = vi n) (h : -9223372036854775808 ≤ m + n ∧ m + n ≤ 9223372036854775807)
    (hk : K (vi (m + n)) σ) : aoper X (.binOp .add t x y ty) env σ Q K :=
  op_bin hx hy (by simp only [abin, if_true, wrap_id h.1 h.2]) hk
theorem op_sub {t ty : TypeId} {x y : Operand} {m n : Int} (hx : aev X env x = vi m) (hy : aev X env y = vi n) (h : -9223372036854775808 ≤ m - n ∧ m - n ≤ 9223372036854775807)
    (hk : K (vi (m - n)) σ) : aoper X (.binOp .sub t x y ty) env σ Q K :=
  op_bin hx hy (by simp only [abin, if_true, wrap_id h.1 h.2]) hk

/-- A call of a function whose call is known. -/
theorem op_call {k : FuncId} {args : List AV} {c : Call} {f : Operand} (h : PFun X k args r) (hc : c.callee = .value f) (hf : aev X env f = .d (.s (.func (.func k) #[] #[]))) (ha : c.args.toList.map (aev X env) = args)
    (hk : K r σ) : aoper X (.call c) env σ Q K := by
  obtain ⟨callee, as, tys⟩ := c
  simp only at hc ha
  subst hc
  subst ha
  simp only [aoper, hf, acallee, acall]
  refine ⟨trivial, trivial, (h.at σ).mono ?_⟩
  rintro E σ' ⟨rfl, rfl⟩
  exact hk

/-- len of rows that stand for a list. -/
theorem op_len {α : Type} {e : α → List D} {l : List α} {ti : TI} {el : TypeId} {as : Array Operand} {ts : Array TypeId} {x : Operand} {t : TypeId} (hx : aev X env x = .d (.im (l.map e))) (h1 : as.toList = [x]) (h2 : ts.toList = [t])
    (ht : X.T t = some ti) (hk' : ti.kind = .slice el) (hk : K (vi l.length) σ) : aoper X (.call ⟨.builtin .len, as, ts⟩) env σ Q K := by
  simp only [aoper, h1, h2, abuiltin, alen]
  refine ⟨ti, ht, ?_⟩
  simp only [hk', hx, List.length_map]
  exact hk

/-- An element of rows that stand for a list. -/
theorem op_elem {α : Type} {e : α → List D} {l : List α} {y : α} {k : Nat} {ti te : TI} {el : TypeId} {t : TypeId} {x i : Operand} (hx : aev X env x = .d (.im (l.map e))) (hi : aev X env i = vi (k : Int)) (hl : l[k]? = some y)
    (ht : X.T t = some ti) (hk' : ti.kind = .slice el) (hte : X.T el = some te) (hs : (e y).length = te.size) (hk : K (.d (.ip (e y) 0)) σ) : aoper X (.indexAddr t x i) env σ Q K := by
  simp only [aoper, aop, aindexAddr]
  have hlt : k < l.length := (List.getElem?_eq_some_iff.1 hl).1
  refine ⟨k, ⟨_, hi⟩, Int.natCast_nonneg k, ti, ht, ?_⟩
  simp only [hk', hx]
  exact ⟨by simp; omega, te, hte, e y, by simp [hl], hs, hk⟩

/-- A byte of a string. -/
theorem op_byte {s : ByteArray} {k : Nat} {ti : TI} {t : TypeId} {x i : Operand} {y : UInt8} (hx : aev X env x = vs s) (hi : aev X env i = vi (k : Int)) (hl : s[k]? = some y)
    (ht : X.T t = some ti) (hk' : ti.kind = .string) (hk : K (.d (.s (.int .u8 y.toNat))) σ) : aoper X (.index t x i) env σ Q K := by
  simp only [aoper, aop, aindex]
  refine ⟨k, ⟨_, hi⟩, Int.natCast_nonneg k, ti, ht, ?_⟩
  simp only [hk', hx]
  exact ⟨y, by simpa using hl, hk⟩

/-! ### tables for places and objects -/

def envL : List (Nat × AV) → Env
  | [], _ => .any
  | (k, v) :: l, t => if t = k then v else envL l t

def stL (l : List (Option AO)) : St := ⟨fun i => (l[i]?).join, l.length⟩

def LowEnv (env : Env) (n : Nat) : List (Nat × AV) → Prop
  | [] => True
  | (k, v) :: l => (env k = v ∧ low n v = true) ∧ LowEnv env n l

def LowSt (σ : St) (n : Nat) : Nat → List (Option AO) → Prop
  | _, [] => True
  | i, none :: l => LowSt σ n (i + 1) l
  | i, some o :: l => (σ.obj i = some o ∧ o.low n) ∧ LowSt σ n (i + 1) l

theorem lowEnv_at {n : Nat} : ∀ {L : List (Nat × AV)}, LowEnv env n L → ∀ t, envL L t = .any ∨ (envL L t = env t ∧ low n (env t) = true)
  | [], _, t => .inl rfl
  | (k, v) :: l, h, t => by
    simp only [envL]
    by_cases ht : t = k
    · subst ht
      rw [if_pos rfl]
      exact .inr ⟨h.1.1.symm, by rw [h.1.1]; exact h.1.2⟩
    · rw [if_neg ht]; exact lowEnv_at h.2 t

theorem lowSt_at {n : Nat} : ∀ {L : List (Option AO)} {i : Nat}, LowSt σ n i L → ∀ j o, (L[j]?).join = some o → σ.obj (i + j) = some o ∧ o.low n
  | [], _, _, j, o, h => by simp at h
  | none :: l, i, hs, j, o, h => by
    cases j with
    | zero => simp at h
    | succ j =>
      have := lowSt_at (L := l) (i := i + 1) hs j o (by simpa using h)
      rwa [show i + 1 + j = i + (j + 1) by omega] at this
  | some x :: l, i, hs, j, o, h => by
    cases j with
    | zero => simp at h; subst h; exact hs.1
    | succ j =>
      have := lowSt_at (L := l) (i := i + 1) hs.2 j o (by simpa using h)
      rwa [show i + 1 + j = i + (j + 1) by omega] at this

theorem low_mk {L : List (Nat × AV)} {O : List (Option AO)} (hn : O.length ≤ σ.next) (he : LowEnv env O.length L) (ho : LowSt σ O.length 0 O) : Low env σ (envL L) (stL O) := by
  refine ⟨hn, fun i o h => ?_, lowEnv_at he⟩
  have h' := lowSt_at ho i o h
  rw [Nat.zero_add] at h'
  refine ⟨?_, h'⟩
  have h1 : (O[i]?).join = some o := h
  rcases Nat.lt_or_ge i O.length with hlt | hge
  · exact hlt
  · rw [List.getElem?_eq_none hge] at h1; cases h1

/-- A description that says less, with the same number of objects. -/
def WeakEnv (z : Option (Nat × Nat × List (List D))) (env : Env) : List (Nat × AV) → Prop
  | [] => True
  | (k, v) :: l => Frz z (env k) v ∧ WeakEnv z env l

def WeakSt (z : Option (Nat × Nat × List (List D))) (σ : St) : Nat → List (Option AO) → Prop
  | _, [] => True
  | i, none :: l => WeakSt z σ (i + 1) l
  | i, some o :: l => (z.all (fun y => y.1 != i) = true ∧ ∃ o0, σ.obj i = some o0 ∧ OFrz z o0 o) ∧ WeakSt z σ (i + 1) l

theorem weakEnv_at {z : Option (Nat × Nat × List (List D))} : ∀ {L : List (Nat × AV)}, WeakEnv z env L → ∀ t, Frz z (env t) (envL L t)
  | [], _, t => .any _
  | (k, v) :: l, h, t => by
    simp only [envL]
    by_cases ht : t = k
    · subst ht; rw [if_pos rfl]; exact h.1
    · rw [if_neg ht]; exact weakEnv_at h.2 t

theorem weakSt_at {z : Option (Nat × Nat × List (List D))} : ∀ {L : List (Option AO)} {i : Nat}, WeakSt z σ i L → ∀ j o, (L[j]?).join = some o → z.all (fun y => y.1 != (i + j)) = true ∧ ∃ o0, σ.obj (i + j) = some o0 ∧ OFrz z o0 o
  | [], _, _, j, o, h => by simp at h
  | none :: l, i, hs, j, o, h => by
    cases j with
    | zero => simp at h
    | succ j =>
      have := weakSt_at (L := l) (i := i + 1) hs j o (by simpa using h)
      rwa [show i + 1 + j = i + (j + 1) by omega] at this
  | some x :: l, i, hs, j, o, h => by
    cases j with
    | zero => simp at h; subst h; exact hs.1
    | succ j =>
      have := weakSt_at (L := l) (i := i + 1) hs.2 j o (by simpa using h)
      rwa [show i + 1 + j = i + (j + 1) by omega] at this

theorem weak_mk {L : List (Nat × AV)} {O : List (Option AO)} (hn : O.length = σ.next) (he : WeakEnv none env L) (ho : WeakSt none σ 0 O) : Turn X nt env σ (envL L) (stL O) :=
  turn_weak hn (fun j o h => by have := (weakSt_at ho j o h).2; rwa [Nat.zero_add] at this) (weakEnv_at he)

theorem freeze_mk {L : List (Nat × AV)} {O : List (Option AO)} (i : Nat) {v E sz : Nat} {rows : List (List D)} (hi : σ.obj i = some (.row v E sz (rows.map (·.map .d)))) (hn : O.length = σ.next) (he : WeakEnv (some (i, v, rows)) env L)
    (ho : WeakSt (some (i, v, rows)) σ 0 O) : Turn X nt env σ (envL L) (stL O) :=
  turn_freeze i hi hn (fun j o h => by
    have := weakSt_at ho j o h
    rw [Nat.zero_add] at this
    exact ⟨fun e => by simp [e] at this, this.2⟩) (weakEnv_at he)
end regs

/-! ### a function that looks at frozen data alone -/

theorem pfun_of {X : Cfg} {f : FuncId} {fn : Func} {c : Code} {nt : Nat} {rs : Array ResultVar} {args : List AV} {r : AV} (hf : X.P.funcs[f]? = some fn) (hb : fn.body = some c)
    (hn : (fn.name == "runtime.NumGoroutine") = false) (hnt : fn.ntmps = nt) (hrs : fn.results = rs) (hle : args.length ≤ nt) (h1 : lows 0 args = true) (h2 : low 0 r = true)
    (h : Ok X nt c (endQ X rs.toList fun E _ => E = .ret r) (env0 args) St.nil) : PFun X f args r :=
  ⟨h1, h2, afun_of hf hb hn hnt hrs hle h⟩

theorem cond_t {X : Cfg} {nt : Nat} {Q : Exit → Env → St → Prop} {env : Env} {σ : St} {c : Operand} {x y : Code} {b : Bool} (hb : aev X env c = .d (.s (.bool b))) (hw : b = true) (h : Ok X nt x Q env σ) : Ok X nt (.cond c x y) Q env σ :=
  ok_cond' hb (fun _ => h) (fun h' => by rw [hw] at h'; cases h')
theorem cond_f {X : Cfg} {nt : Nat} {Q : Exit → Env → St → Prop} {env : Env} {σ : St} {c : Operand} {x y : Code} {b : Bool} (hb : aev X env c = .d (.s (.bool b))) (hw : b = false) (h : Ok X nt y Q env σ) : Ok X nt (.cond c x y) Q env σ :=
  ok_cond' hb (fun h' => by rw [hw] at h'; cases h') (fun _ => h)

theorem x_ret_block {id : Nat} {Q : Exit → Env → St → Prop} {env : Env} {σ : St} (h : Q .ret env σ) : inBlock id Q .ret env σ := h
theorem x_ret_then {K : Env → St → Prop} {Q : Exit → Env → St → Prop} {env : Env} {σ : St} (h : Q .ret env σ) : andThen K Q .ret env σ := h
theorem x_exit_then {id : Nat} {K : Env → St → Prop} {Q : Exit → Env → St → Prop} {env : Env} {σ : St} (h : Q (.exit id) env σ) : andThen K Q (.exit id) env σ := h
theorem x_panic_then {ch : List PanicEntry} {K : Env → St → Prop} {Q : Exit → Env → St → Prop} {env : Env} {σ : St} (h : Q (.panic ch) env σ) : andThen K Q (.panic ch) env σ := h
theorem x_panic_block {ch : List PanicEntry} {id : Nat} {Q : Exit → Env → St → Prop} {env : Env} {σ : St} (h : Q (.panic ch) env σ) : inBlock id Q (.panic ch) env σ := h
theorem x_normal_block {id : Nat} {Q : Exit → Env → St → Prop} {env : Env} {σ : St} (h : Q .normal env σ) : inBlock id Q .normal env σ := h
theorem x_exit_here {id : Nat} {Q : Exit → Env → St → Prop} {env : Env} {σ : St} (h : Q .normal env σ) : inBlock id Q (.exit id) env σ := by simp only [inBlock, if_true]; exact h
theorem x_exit_block {id id' : Nat} {Q : Exit → Env → St → Prop} {env : Env} {σ : St} (hne : (id' == id) = false) (h : Q (.exit id') env σ) : inBlock id Q (.exit id') env σ := by
  simp only [beq_eq_false_iff_ne] at hne
  simp only [inBlock, hne, if_false]; exact h
theorem x_normal_then {K : Env → St → Prop} {Q : Exit → Env → St → Prop} {env : Env} {σ : St} (h : K env σ) : andThen K Q .normal env σ := h

theorem ret1 {X : Cfg} {t : Nat} {K : AEnd → St → Prop} {x : AV} {env : Env} {σ : St} (h : (env t).force = some x) (hx : K (.ret x) σ) : endQ X #[.tmp t].toList K .ret env σ := by
  rw [← force_eq h] at hx; exact hx


end Go.Pm
namespace Go.Pm
theorem drop_none {α : Type} {l : List α} {k : Nat} (h : l[k]? = none) : l.drop k = [] := by
  rw [List.getElem?_eq_none_iff] at h
  exact List.drop_eq_nil_of_le h
theorem drop_some {α : Type} {l : List α} {k : Nat} {x : α} (h : l[k]? = some x) : l.drop k = x :: l.drop (k + 1) ∧ k < l.length := by
  obtain ⟨h1, h2⟩ := List.getElem?_eq_some_iff.1 h
  exact ⟨by rw [List.drop_eq_getElem_cons h1, h2], h1⟩
theorem none_le {α : Type} {l : List α} {k : Nat} (h : l[k]? = none) : l.length ≤ k := List.getElem?_eq_none_iff.1 h
theorem ret_vb {a b : Bool} (h : a = b) : AEnd.ret (vb a) = AEnd.ret (vb b) := by rw [h]
theorem ret_vi {a b : Int} (h : a = b) : AEnd.ret (vi a) = AEnd.ret (vi b) := by rw [h]
end Go.Pm
