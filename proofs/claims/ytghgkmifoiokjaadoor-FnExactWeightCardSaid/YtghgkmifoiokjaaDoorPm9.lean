/- The abstract machine, ninth text: a region of operations, calls, and how a function's body gives what its call comes to. -/
import Derived.Test.YtghgkmifoiokjaaDoorPm8
set_option linter.unusedVariables false
set_option linter.unusedSimpArgs false
namespace Go.Pm

def acall (X : Cfg) (k : FuncId) (args : List AV) (σ : St) (env : Env) (Q : Exit → Env → St → Prop) (K : AV → St → Prop) : Prop :=
  AFun X k args σ fun E σ' => match E with | .ret r => K r σ' | .pan ch => Q (.panic ch) env σ'

def acallee (X : Cfg) (f : AV) (args : List AV) (σ : St) (env : Env) (Q : Exit → Env → St → Prop) (K : AV → St → Prop) : Prop :=
  match f with
  | .d (.s (.func (.func k) fs cs)) => fs.toList = [] ∧ cs.toList = [] ∧ acall X k args σ env Q K
  | .fn k caps => acall X k (args ++ caps) σ env Q K
  | _ => False

def aoper (X : Cfg) (o : Op) (env : Env) (σ : St) (Q : Exit → Env → St → Prop) (K : AV → St → Prop) : Prop :=
  match o with
  | .call c =>
    match c.callee with
    | .value f => acallee X (aev X env f) (c.args.toList.map (aev X env)) σ env Q K
    | .builtin b => abuiltin X env σ K b c.args.toList c.argTypes.toList
    | .invoke _ _ => False
  | op => aop X env σ K op

/-- Operations one behind the other. -/
def areg (X : Cfg) (nt : Nat) (ops : List Oper) (Q : Exit → Env → St → Prop) : List Oper → Env → St → Prop
  | [], env, σ => Q .normal env σ
  | o :: rest, env, σ =>
    o.dst.all (· < nt) = true ∧
    match o.guard with
    | none => aoper X o.op env σ Q fun v σ' => areg X nt ops Q rest (put env o.dst v) σ'
    | some (j, want) =>
      match (ops[j]?).bind (·.dst) with
      | none => False
      | some d => d < nt ∧
        match env d with
        | .d (.s (.bool b)) => (b = want → aoper X o.op env σ Q fun v σ' => areg X nt ops Q rest (put env o.dst v) σ') ∧ (b = (!want) → areg X nt ops Q rest (put env o.dst (.d (.s undef))) σ)
        | .d (.s (.tuple _)) => areg X nt ops Q rest (put env o.dst (.d (.s undef))) σ
        | _ => False

section sound
variable {X : Cfg} {nt : Nat} {F F' : FH} {η η' : Et} {σ σ' : St} {w w' : World} {env : Env} {a : Act}

theorem Rel.put (h : Rel F η nt env σ a w) {dst : Option Nat} (hd : dst.all (· < nt) = true) {x : AV} {v : Value} (hx : VRel F η σ.next x v) : Rel F η nt (put env dst x) σ (a.put dst v) w := by
  cases dst with
  | none => exact h
  | some d =>
    have hlt : d < nt := by simpa using hd
    refine ⟨h.fr, h.st, fun t => ?_, by simp [Act.put, h.sz], h.df⟩
    simp only [Act.put, Pm.put]
    by_cases ht : t = d
    · subst ht
      rw [if_pos rfl]
      have : (a.tmps.setIfInBounds t v).getD t undef = v := by simp [Array.getD, h.sz, hlt]
      rw [this]; exact hx
    · rw [if_neg ht]
      have : (a.tmps.setIfInBounds d v).getD t undef = a.tmps.getD t undef := by
        simp only [Array.getD_eq_getD_getElem?, Array.getElem?_setIfInBounds]
        rw [if_neg (Ne.symm ht)]
      rw [this]; exact h.en t

theorem Rel.step (h : Rel F η nt env σ a w) (hs : Step F η σ w F' η' σ' w') (hf : FRel F' w') (hr : SRel F' η' σ' w') : Rel F' η' nt env σ' a w' :=
  ⟨hf, hr, fun t => (h.en t).mono hs.fh hs.et hs.nx, h.sz, h.df⟩

theorem Post.of_step {Q : Exit → Env → St → Prop} {e : Exit} {a' : Act} {w'' : World} (hs : Step F η σ w F' η' σ' w') (h : Post X nt F' η' σ' w' Q e a' w'') : Post X nt F η σ w Q e a' w'' :=
  Post.trans hs h fun _ _ h => h

theorem wpList_mono {P : Program} {ops : Array Oper} {Q Q' : Exit → Act → World → Prop} (hq : ∀ e a w, Q e a w → Q' e a w) : ∀ (l : List Oper) (a : Act) (w : World), wpList P ops Q l a w → wpList P ops Q' l a w
  | [], a, w, h => hq _ _ _ h
  | o :: l, a, w, h => by
    have ih := wpList_mono (P := P) (ops := ops) hq l
    unfold wpList at h ⊢
    have hL : LetsOut Q → LetsOut Q' := fun ⟨a0, w0, h0⟩ => ⟨a0, w0, hq _ _ _ h0⟩
    split at h
    · rename_i hw
      rw [if_pos hw]
      rcases h with h | ⟨h1, h2⟩
      · left
        unfold Oper.wp Oper.upon at h ⊢
        split at h
        · exact ih _ _ h
        · exact ih _ _ h
        · exact ih _ _ h
        · exact h.mono fun e w2 hh => by
            cases e with
            | returned v => exact ih _ _ hh
            | panicked c => exact hq _ _ _ hh
            | outgrown => exact hL hh
        · exact h.mono fun v w2 hh => ih _ _ hh
        · exact hq _ _ _ h
        · exact h.elim
      · exact .inr ⟨h1, hL h2⟩
    · rename_i hw
      rw [if_neg hw]
      exact ih _ _ h

theorem run_callFunc {P : Program} {f : FuncId} (h : CallOk P f) (args : Array Value) (w : World) : (callFunc f args).run P w = .ok (.enter f args) w := by
  obtain ⟨fn, h1, h2, h3⟩ := h
  simp only [callFunc, Sem.run_bind, run_program, Result.andThen_ok, h1]
  rw [if_neg (by rw [h2]; simp)]
  rw [if_neg (by rw [h3]; simp)]
  rfl

/-- One operation, a call or not. -/
theorem aoper_okK {o : Oper} {Kc : Act → World → Prop} {Qc : Exit → Act → World → Prop} {Q : Exit → Env → St → Prop} {R : AV → St → Prop} (hg : GRel X F) (hr : Rel F η nt env σ a w) (hd : o.dst.all (· < nt) = true)
    (h : aoper X o.op env σ Q R)
    (hnext : ∀ (F' : FH) (η' : Et) (x : AV) (v : Value) (σ' : St) (w' : World), Step F η σ w F' η' σ' w' → GRel X F' → Rel F' η' nt env σ' a w' → VRel F' η' σ'.next x v → R x σ' →
      Kc (a.put o.dst v) w')
    (hpan : ∀ (ch : List PanicEntry) (F' : FH) (η' : Et) (σ' : St) (w' : World), Step F η σ w F' η' σ' w' → GRel X F' → Rel F' η' nt env σ' a w' → Q (.panic ch) env σ' → Qc (.panic ch) a w') :
    o.wp X.P a w Kc Qc := by
  have simple : ∀ (h : aop X env σ R o.op), o.wp X.P a w Kc Qc := by
    intro h
    obtain ⟨nx, v, w', F', η', σ', x, hrun, hnx, hs, hg', hf', hr', hv, hk⟩ := aop_ok (o := o) hg hr h
    unfold Oper.wp
    rw [hrun]
    rcases hnx with rfl | ⟨rfl, rfl⟩
    · exact hnext F' η' x v σ' w' hs hg' (hr.step hs hf' hr') hv hk
    · exact hnext F' η' x undef σ' w' hs hg' (hr.step hs hf' hr') hv hk
  have call : ∀ (k : FuncId) (args : List AV) (vals : Array Value), vals.size = args.length → (∀ j (hj : j < args.length), VRel F η σ.next args[j] (vals.getD j undef)) →
      (execOp a.eval o).run X.P w = (callFunc k vals).run X.P w → acall X k args σ env Q R → o.wp X.P a w Kc Qc := by
    intro k args vals hn hv hrun hc
    unfold Oper.wp
    rw [hrun, run_callFunc hc.1]
    refine (hc.2 F η w vals hg hr.fr hr.st hn hv).mono ?_
    rintro e w' ⟨F', η', σ', E, hs, hf', hr', he, hk⟩
    cases E with
    | ret r =>
      cases e with
      | returned v => exact hnext F' η' r v σ' w' hs (hg.mono hs.fh) (hr.step hs hf' hr') he hk
      | panicked c => exact he.elim
      | outgrown => exact he.elim
    | pan ch =>
      cases e with
      | returned v => exact he.elim
      | panicked c =>
        have : c = ch := he
        subst this
        exact hpan _ F' η' σ' w' hs (hg.mono hs.fh) (hr.step hs hf' hr') hk
      | outgrown => exact he.elim
  obtain ⟨dst, op, ty, pos, after, guard⟩ := o
  cases op with
  | call c =>
    obtain ⟨callee, args, ats⟩ := c
    cases callee with
    | builtin b => exact simple h
    | value f =>
      simp only [aoper] at h
      unfold acallee at h
      split at h
      · rename_i k fs cs hfv
        obtain ⟨e1, e2, h⟩ := h
        have hfv2 := aev_rel hg hr f
        rw [hfv] at hfv2
        have hfv2 := hfv2.s_inv
        have e1 : fs = #[] := by cases fs; simp_all
        have e2 : cs = #[] := by cases cs; simp_all
        subst e1
        subst e2
        refine call k _ (args.map a.eval) (by simp) (fun j hj => ?_) ?_ h
        · have hj' : j < args.size := by simpa using hj
          simp only [List.getElem_map, Array.getElem_toList, Array.getD, Array.size_map, hj', dif_pos, Array.getInternal_eq_getElem, Array.getElem_map]
          exact aev_rel hg hr _
        · simp [execOp, resolve, hfv2, Deferred.ofValue, invoke]
      · rename_i k caps hfv
        have hfv2 := aev_rel hg hr f
        rw [hfv] at hfv2
        generalize hq : a.eval f = vf at hfv2
        cases hfv2 with
        | @fn _ _ vs hn hrel =>
        refine call k _ (args.map a.eval ++ vs) (by simp [hn]) (fun j hj => ?_) ?_ h
        · by_cases hj1 : j < args.size
          · rw [List.getElem_append_left (by simpa using hj1)]
            have e : (args.map a.eval ++ vs).getD j undef = a.eval args[j] := by
              rw [Array.getD_eq_getD_getElem?, Array.getElem?_append_left (by simpa using hj1)]
              simp [hj1]
            rw [e]
            simp only [List.getElem_map, Array.getElem_toList]
            exact aev_rel hg hr _
          · simp only [List.length_append, List.length_map, Array.length_toList] at hj
            rw [List.getElem_append_right (by simp; omega)]
            have e : (args.map a.eval ++ vs).getD j undef = vs.getD (j - args.size) undef := by
              rw [Array.getD_eq_getD_getElem?, Array.getElem?_append_right (by simp; omega)]
              simp [Array.getD_eq_getD_getElem?]
            rw [e]
            simp only [List.length_map, Array.length_toList]
            exact hrel _ (by omega)
        · simp [execOp, resolve, hq, Deferred.ofValue, invoke]
      · exact h.elim
    | invoke r m => exact h.elim
  | _ => exact simple h

theorem aoper_ok {o : Oper} {ops : Array Oper} {rest : List Oper} {Q : Exit → Env → St → Prop} {R : AV → St → Prop} (hg : GRel X F) (hr : Rel F η nt env σ a w) (hd : o.dst.all (· < nt) = true)
    (h : aoper X o.op env σ Q R)
    (hnext : ∀ (F' : FH) (η' : Et) (x : AV) (v : Value) (σ' : St) (w' : World), Step F η σ w F' η' σ' w' → GRel X F' → Rel F' η' nt env σ' a w' → VRel F' η' σ'.next x v → R x σ' →
      wpList X.P ops (Post X nt F η σ w Q) rest (a.put o.dst v) w') :
    o.wp X.P a w (wpList X.P ops (Post X nt F η σ w Q) rest) (Post X nt F η σ w Q) :=
  aoper_okK hg hr hd h hnext fun ch F' η' σ' w' hs hg' hr' hq => ⟨F', η', env, σ', hs, hg', hr', hq⟩

theorem areg_ok {ops : Array Oper} {Q : Exit → Env → St → Prop} : ∀ (l : List Oper) (env : Env) (σ : St) (F : FH) (η : Et) (a : Act) (w : World), GRel X F → Rel F η nt env σ a w →
    areg X nt ops.toList Q l env σ → wpList X.P ops (Post X nt F η σ w Q) l a w
  | [], env, σ, F, η, a, w, hg, hr, h => ⟨F, η, env, σ, .refl _ _ _ _, hg, hr, h⟩
  | o :: l, env, σ, F, η, a, w, hg, hr, h => by
    obtain ⟨hd, h⟩ := h
    have go : aoper X o.op env σ Q (fun v σ' => areg X nt ops.toList Q l (put env o.dst v) σ') → o.wp X.P a w (wpList X.P ops (Post X nt F η σ w Q) l) (Post X nt F η σ w Q) := by
      intro h1
      refine aoper_ok hg hr hd h1 ?_
      intro F' η' x v σ' w' hs hg' hr' hv hk
      exact wpList_mono (fun _ _ _ hp => hp.of_step hs) l _ _ (areg_ok l (put env o.dst x) σ' F' η' (a.put o.dst v) w' hg' (hr'.put hd hv) hk)
    have skip : areg X nt ops.toList Q l (put env o.dst (.d (.s undef))) σ → wpList X.P ops (Post X nt F η σ w Q) l (a.put o.dst undef) w :=
      fun h1 => areg_ok l (put env o.dst (.d (.s undef))) σ F η (a.put o.dst undef) w hg (hr.put hd (.d (.s _))) h1
    unfold wpList
    cases hgd : o.guard with
    | none =>
      simp only [hgd] at h
      rw [if_pos (by simp [Region.wanted, hgd])]
      exact .inl (go h)
    | some jw =>
      obtain ⟨j, want⟩ := jw
      simp only [hgd] at h
      split at h
      · exact h.elim
      · rename_i d hjd
        obtain ⟨hdn, h⟩ := h
        have hjd' : (ops[j]?).bind (·.dst) = some d := by simpa using hjd
        have hen := hr.en d
        have hlt : d < a.tmps.size := by rw [hr.sz]; exact hdn
        have hget : a.tmps[d]? = some (a.tmps.getD d undef) := by simp [hlt, Array.getD]
        split at h
        · rename_i b hb
          obtain ⟨h1, h2⟩ := h
          rw [hb] at hen
          have hv := hen.s_inv
          have hy : yielded ops a.tmps j = some b := by
            unfold yielded
            rw [hjd', Option.bind_some, hget, hv]
          by_cases hbw : b = want
          · rw [if_pos (by simp [Region.wanted, hgd, hy, hbw])]
            exact .inl (go (h1 hbw))
          · rw [if_neg (by simp [Region.wanted, hgd, hy, hbw])]
            exact skip (h2 (by cases b <;> cases want <;> simp_all))
        · rename_i vs hb
          rw [hb] at hen
          have hv := hen.s_inv
          have hy : yielded ops a.tmps j = none := by
            unfold yielded
            rw [hjd', Option.bind_some, hget, hv]
          rw [if_neg (by simp [Region.wanted, hgd, hy])]
          exact skip h
        · exact h.elim

theorem ok_region {id : Nat} {ops : List Oper} {Q : Exit → Env → St → Prop} (h : areg X nt ops Q ops env σ) : Ok X nt (.region id ops.toArray false) Q env σ :=
  fun F η a w hg hr => wp_region_list (by simpa using areg_ok (ops := ops.toArray) ops env σ F η a w hg hr (by simpa using h))

/-! ### a function's body -/

def ares (σ : St) (X : Cfg) (env : Env) (K : AV → St → Prop) : List ResultVar → List AV → Prop
  | [], acc => match acc with | [r] => K r σ | rs => K (.tup rs) σ
  | .tmp t :: rs, acc => ares σ X env K rs (acc ++ [env t])
  | .cell p ty :: rs, acc => aload X ty (env p) σ fun r _ => ares σ X env K rs (acc ++ [r])

def resv (tmps : Array Value) : ResultVar → Sem Value
  | .tmp t => pure (tmps.getD t undef)
  | .cell p t => do loadVar t (← asAddr (tmps.getD p undef))

theorem ares_ok (hg : GRel X F) (hr : Rel F η nt env σ a w) {K : AV → St → Prop} : ∀ (rs : List ResultVar) (acc : List AV) (vals : List Value), vals.length = acc.length →
    (∀ j (h : j < acc.length), VRel F η σ.next acc[j] (vals.getD j undef)) → ares σ X env K rs acc →
    ∃ out : List Value, (rs.mapM (resv a.tmps)).run X.P w = .ok out w ∧
      ∃ racc : List AV, (vals ++ out).length = racc.length ∧ (∀ j (h : j < racc.length), VRel F η σ.next racc[j] ((vals ++ out).getD j undef)) ∧ (match racc with | [r] => K r σ | rs => K (.tup rs) σ)
  | [], acc, vals, hl, hv, h => ⟨[], by simp, acc, by simpa using hl, by simpa using hv, h⟩
  | r :: rs, acc, vals, hl, hv, h => by
    have app : ∀ (x : AV) (v : Value), VRel F η σ.next x v → (vals ++ [v]).length = (acc ++ [x]).length ∧ ∀ j (h : j < (acc ++ [x]).length), VRel F η σ.next (acc ++ [x])[j] ((vals ++ [v]).getD j undef) := by
      intro x v hxv
      refine ⟨by simp [hl], fun j hj => ?_⟩
      by_cases hja : j < acc.length
      · rw [List.getElem_append_left hja]
        have : (vals ++ [v]).getD j undef = vals.getD j undef := by simp only [List.getD]; rw [List.getElem?_append_left (by omega)]
        rw [this]; exact hv j hja
      · have hje : j = acc.length := by simp at hj; omega
        subst hje
        rw [List.getElem_append_right (Nat.le_refl _)]
        have : (vals ++ [v]).getD acc.length undef = v := by simp only [List.getD]; rw [List.getElem?_append_right (by omega)]; simp [hl]
        rw [this]; simpa using hxv
    cases r with
    | tmp t =>
      obtain ⟨h1, h2⟩ := app (env t) (a.tmps.getD t undef) (hr.en t)
      obtain ⟨out, e1, racc, e2, e3, e4⟩ := ares_ok hg hr rs (acc ++ [env t]) (vals ++ [a.tmps.getD t undef]) h1 h2 h
      exact ⟨a.tmps.getD t undef :: out, by simp only [List.mapM_cons, resv, Sem.run_bind, Sem.run_pure, Result.andThen_ok, e1], racc, by simpa using e2, by simpa using e3, e4⟩
    | cell p ty =>
      obtain ⟨v, r, hl1, hl2, hl3⟩ := aload_ok hg hr.fr hr.st (hr.en p) h
      obtain ⟨h1, h2⟩ := app r v hl2
      obtain ⟨out, e1, racc, e2, e3, e4⟩ := ares_ok hg hr rs (acc ++ [r]) (vals ++ [v]) h1 h2 hl3
      refine ⟨v :: out, ?_, racc, by simpa using e2, by simpa using e3, e4⟩
      have hld : (resv a.tmps (.cell p ty)).run X.P w = .ok v w := by
        show (do loadVar ty (← asAddr (a.tmps.getD p undef)) : Sem Value).run X.P w = _
        generalize a.tmps.getD p undef = pv at hl1
        cases pv with
        | pointer x =>
          cases x with
          | none => simp [Instr.loadAt, Instr.sureAddr] at hl1
          | some ad => simpa [Instr.loadAt, Instr.sureAddr, asAddr] using hl1
        | _ => simp [Instr.loadAt, Instr.sureAddr] at hl1
      simp only [List.mapM_cons, Sem.run_bind, hld, Result.andThen_ok, e1, Sem.run_pure]

/-- What is asked at the end of a body. -/
def bodyQ (X : Cfg) (fn : Func) (K : AEnd → St → Prop) : Exit → Env → St → Prop
  | .normal, env, σ => ares σ X env (fun r σ => K (.ret r) σ) fn.results.toList []
  | .ret, env, σ => ares σ X env (fun r σ => K (.ret r) σ) fn.results.toList []
  | .panic ch, env, σ => K (.pan ch) σ
  | _, _, _ => False

theorem results_ok (hg : GRel X F) (hr : Rel F η nt env σ a w) {fn : Func} {K : AV → St → Prop} (h : ares σ X env K fn.results.toList []) :
    ∃ v r, (results fn a.tmps).run X.P w = .ok v w ∧ VRel F η σ.next r v ∧ K r σ := by
  obtain ⟨out, e1, racc, e2, e3, e4⟩ := ares_ok hg hr fn.results.toList [] [] rfl (by simp) h
  simp only [List.nil_append] at e2 e3
  have hrun : (results fn a.tmps).run X.P w = .ok (if h : out.toArray.size = 1 then out.toArray[0] else .tuple out.toArray) w := by
    have hfe : (fun (x : ResultVar) => (match x with | .tmp t => pure (a.tmps.getD t undef) | .cell p t => do loadVar t (← asAddr (a.tmps.getD p undef)) : Sem Value)) = resv a.tmps := by
      funext x; cases x <;> rfl
    have : results fn a.tmps = (do let vs ← fn.results.mapM (resv a.tmps); pure (if h : vs.size = 1 then vs[0] else .tuple vs)) := by
      unfold results
      rw [← hfe]
      rfl
    rw [this]
    simp only [Array.mapM_eq_mapM_toList, Sem.run_bind, Sem.run_map, e1, Result.andThen_ok, Sem.run_pure]
  match racc, e2, e3, e4 with
  | [r], e2, e3, e4 =>
    have hl : out.length = 1 := by simpa using e2
    refine ⟨_, r, hrun, ?_, e4⟩
    rw [dif_pos (by simpa using hl)]
    have := e3 0 (by simp)
    have h0 : 0 < out.length := by omega
    simpa [List.getD, List.getElem?_eq_getElem h0] using this
  | [], e2, e3, e4 =>
    have hl : out.length = 0 := by simpa using e2
    refine ⟨_, .tup [], hrun, ?_, e4⟩
    rw [dif_neg (by simp; omega)]
    exact .tup (by simpa using hl) (fun j hj => by simp at hj)
  | r1 :: r2 :: rs, e2, e3, e4 =>
    have hl : out.length = (r1 :: r2 :: rs).length := e2
    refine ⟨_, .tup (r1 :: r2 :: rs), hrun, ?_, e4⟩
    rw [dif_neg (by simp at hl ⊢; omega)]
    refine .tup (by simpa using hl) fun j hj => ?_
    have := e3 j hj
    simpa [getD_toArray] using this

def env0 (args : List AV) : Env := fun t => args.getD t (.d (.s undef))

/-- A function's body gives what its call comes to. -/
theorem afun_intro {f : FuncId} {fn : Func} {c : Code} {args : List AV} {σ : St} {K : AEnd → St → Prop} (hf : X.P.funcs[f]? = some fn) (hb : fn.body = some c)
    (hn : (fn.name == "runtime.NumGoroutine") = false) (hle : args.length ≤ fn.ntmps) (h : Ok X fn.ntmps c (bodyQ X fn K) (env0 args) σ) : AFun X f args σ K := by
  refine ⟨⟨fn, hf, hn, by rw [hb]; rfl⟩, fun F η w vals hg hfr hs hvn hv => ?_⟩
  refine calls_of_wp hf hb (wp_mono (h F η { tmps := vals ++ Array.replicate (fn.ntmps - vals.size) undef, defers := [] } w hg ⟨hfr, hs, fun t => ?_, by simp; omega, rfl⟩) ?_)
  · by_cases ht : t < args.length
    · have e1 : env0 args t = args[t] := by simp [env0, List.getD, ht]
      have e2 : (vals ++ Array.replicate (fn.ntmps - vals.size) undef).getD t undef = vals.getD t undef := by
        simp only [Array.getD_eq_getD_getElem?]
        rw [Array.getElem?_append_left (by omega)]
      rw [e1, e2]; exact hv t ht
    · have e1 : env0 args t = .d (.s undef) := by simp [env0, List.getD, List.getElem?_eq_none (Nat.le_of_not_lt ht)]
      have e2 : (vals ++ Array.replicate (fn.ntmps - vals.size) undef).getD t undef = undef := by
        simp only [Array.getD_eq_getD_getElem?]
        rw [Array.getElem?_append_right (by omega)]
        simp only [Array.getElem?_replicate]
        split <;> rfl
      rw [e1, e2]; exact .d (.s _)
  · rintro e a' w' ⟨F', η', env', σ', hs', hg', hr', hq⟩
    have fin : ares σ' X env' (fun r σ => K (.ret r) σ) fn.results.toList [] → a'.defers = [] ∧ ∃ v, (results fn a'.tmps).run X.P w' = .ok v w' ∧
        ∃ F'' η'' σ'' E, Step F η σ w F'' η'' σ'' w' ∧ FRel F'' w' ∧ SRel F'' η'' σ'' w' ∧ EndRel F'' η'' σ''.next E (.returned v) ∧ K E σ'' := by
      intro hq
      obtain ⟨v, r, h1, h2, h3⟩ := results_ok hg' hr' hq
      exact ⟨hr'.df, v, h1, F', η', σ', .ret r, hs', hr'.fr, hr'.st, h2, h3⟩
    cases e with
    | normal => exact fin hq
    | ret => exact fin hq
    | panic ch => exact ⟨hr'.df, F', η', σ', .pan ch, hs', hr'.fr, hr'.st, rfl, hq⟩
    | exit id => exact hq.elim
    | goto l => exact hq.elim
    | outgrown => exact hq.elim

/-! ### what a call leaves behind -/

theorem VRel.lower {n n' : Nat} {x : AV} {v0 : Value} (h0 : VRel F η n x v0) : ∀ {v : Value}, VRel F' η' n' x v → VRel F' η' n x v := by
  induction h0 with
  | d h => intro v hv; cases hv with | d h => exact .d h
  | agg h1 _ ih => intro v hv; cases hv with | agg h2 h3 => exact .agg h2 fun j hj => ih j hj (h3 j hj)
  | tup h1 _ ih => intro v hv; cases hv with | tup h2 h3 => exact .tup h2 fun j hj => ih j hj (h3 j hj)
  | ref hi => intro v hv; cases hv; exact .ref hi
  | sl h1 h2 => intro v hv; cases hv with
    | sl a b c d e f => exact .sl h1 h2 c d e f
    | sl0 a b c => exact .sl0 h1 h2 c
  | sl0 h1 h2 => intro v hv; cases hv with
    | sl a b c d e f => exact .sl h1 h2 c d e f
    | sl0 a b c => exact .sl0 h1 h2 c
  | ep h1 h2 => intro v hv; cases hv with | ep a b c => exact .ep h1 h2 c
  | mp hi => intro v hv; cases hv; exact .mp hi
  | it hi => intro v hv; cases hv; exact .it hi
  | fn h1 _ ih => intro v hv; cases hv with | fn h2 h3 => exact .fn h2 fun j hj => ih j hj (h3 j hj)
  | ifc _ ih => intro v hv; cases hv with | ifc h => exact .ifc (ih h)
  | any v => intro v _; exact .any v

theorem ORel.lower {n n' : Nat} {i : Nat} {o : AO} (h0 : ORel F η n w i o) (h : ORel F' η' n' w' i o) : ORel F' η' n w' i o := by
  cases h0 with
  | var c0 E0 a1 a2 a3 a4 =>
    cases h with
    | var c E b1 b2 b3 b4 => exact .var c E b1 b2 b3 fun j hj => (a4 j hj).lower (b4 j hj)
  | row xs0 a1 a2 a3 a4 a5 a6 a7 =>
    cases h with
    | row xs b1 b2 b3 b4 b5 b6 b7 => exact .row xs a1 b2 b3 b4 b5 b6 fun k hk j hj => (a7 k hk j hj).lower (b7 k hk j hj)
  | map e0 c0 a1 a2 a3 a4 a4' a5 a6 a7 =>
    cases h with
    | map e c b1 b2 b3 b4 b4' b5 b6 b7 => exact .map e c b1 b2 b3 b4 b4' b5 b6 fun k hk => (a7 k hk).lower (b7 k hk)
  | iter _ => cases h with | iter hb => exact .iter hb

/-- What the call made itself and does not hand on is forgotten. -/
theorem AFun.forget {f : FuncId} {args : List AV} {σ : St} {K : AEnd → St → Prop}
    (h : AFun X f args σ fun E σ' => ∃ x, E = .ret (.d x) ∧ (∀ i, i < σ.next → σ'.obj i = σ.obj i) ∧ K (.ret (.d x)) σ) : AFun X f args σ K := by
  refine ⟨h.1, fun F η w vals hg hf hs hn hv => (h.2 F η w vals hg hf hs hn hv).mono ?_⟩
  rintro e w' ⟨F', η', σ', E, h1, h2, h3, h4, x, rfl, hobj, hk⟩
  have hin : ∀ i o, σ.obj i = some o → σ'.obj i = some o := fun i o ho => by rw [hobj i (hs.lt i o ho)]; exact ho
  have hown : ∀ i o, σ.obj i = some o → own η' i o = own η i o := fun i o ho => (hs.ob i o ho).own_agree (hs.lt i o ho) h1.et
  refine ⟨F', η', σ, .ret (.d x), ⟨h1.fh, h1.et, Nat.le_refl _, h1.gr, h1.fm, fun i o b ho hb _ => ⟨i, o, ho, by rw [← hown i o ho]; exact hb⟩, h1.nf⟩, h2, ⟨hs.lt, fun i o ho => ?_, ?_, ?_⟩, ?_, hk⟩
  · exact (hs.ob i o ho).lower (h3.ob i o (hin i o ho))
  · exact fun i j oi oj b hi hj => h3.ap i j oi oj b (hin i oi hi) (hin j oj hj)
  · exact fun i o b hi => h3.fr i o b (hin i o hi)
  · cases e with
    | returned v =>
      have : VRel F' η' σ'.next (.d x) v := h4
      cases this with
      | d hd => exact VRel.d hd
    | panicked c => exact h4.elim
    | outgrown => exact h4.elim
end sound
end Go.Pm
