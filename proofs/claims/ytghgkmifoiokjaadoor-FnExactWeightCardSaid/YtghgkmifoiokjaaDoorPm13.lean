/- The abstract machine, thirteenth text: what is forgotten, what is frozen, and calls that are shown from an empty state. -/
import Derived.Test.YtghgkmifoiokjaaDoorPm12
set_option linter.unusedVariables false
set_option linter.unusedSimpArgs false
namespace Go.Pm

mutual
/-- The value speaks of objects below n alone. -/
def low (n : Nat) : AV → Bool
  | .d _ => true
  | .agg cs => lows n cs
  | .tup cs => lows n cs
  | .ref i _ => decide (i < n)
  | .sl i v _ _ => decide (i < n) && decide (v < n)
  | .ep i v _ _ => decide (i < n) && decide (v < n)
  | .mp i => decide (i < n)
  | .it i => decide (i < n)
  | .fn _ caps => lows n caps
  | .ifc _ x => low n x
  | .any => true
def lows (n : Nat) : List AV → Bool
  | [] => true
  | c :: cs => low n c && lows n cs
end

theorem lows_at {n : Nat} : ∀ {cs : List AV}, lows n cs = true → ∀ j (h : j < cs.length), low n cs[j] = true
  | [], _, j, h => by simp at h
  | c :: cs, h, j, hj => by
    simp only [lows, Bool.and_eq_true] at h
    cases j with
    | zero => exact h.1
    | succ j => exact lows_at h.2 j (by simpa using hj)

theorem lows_of {n : Nat} : ∀ {cs : List AV}, (∀ c ∈ cs, low n c = true) → lows n cs = true
  | [], _ => rfl
  | c :: cs, h => by
    simp only [lows, Bool.and_eq_true]
    exact ⟨h c (by simp), lows_of fun c' hc => h c' (by simp [hc])⟩

theorem low_rel {F : FH} {η : Et} {m n : Nat} {x : AV} {v : Value} (h : VRel F η m x v) : low n x = true → VRel F η n x v := by
  induction h with
  | d h => intro _; exact .d h
  | agg h1 _ ih => intro h; simp only [low] at h; exact .agg h1 fun j hj => ih j hj (lows_at h j hj)
  | tup h1 _ ih => intro h; simp only [low] at h; exact .tup h1 fun j hj => ih j hj (lows_at h j hj)
  | ref hi => intro h; exact .ref (by simpa [low] using h)
  | sl h1 h2 hh hle hc hoff => intro h; simp [low] at h; exact .sl h.1 h.2 hh hle hc hoff
  | sl0 hi hv hh => intro h; simp [low] at h; exact .sl0 h.1 h.2 hh
  | ep hi hv hh => intro h; simp [low] at h; exact .ep h.1 h.2 hh
  | mp hi => intro h; exact .mp (by simpa [low] using h)
  | it hi => intro h; exact .it (by simpa [low] using h)
  | fn h1 _ ih => intro h; simp only [low] at h; exact .fn h1 fun j hj => ih j hj (lows_at h j hj)
  | ifc _ ih => intro h; simp only [low] at h; exact .ifc (ih h)
  | any v => intro _; exact .any v

/-- The object speaks of objects below n alone. -/
def AO.low (n : Nat) : AO → Prop
  | .var cells => lows n cells = true
  | .row v _ _ rows => v < n ∧ ∀ r ∈ rows, lows n r = true
  | .map _ es => ∀ e ∈ es, Pm.low n e.2 = true
  | .iter _ => True

theorem low_orel {F : FH} {η : Et} {m n : Nat} {w : World} {i : Nat} {o : AO} (h : ORel F η m w i o) (hl : o.low n) : ORel F η n w i o := by
  cases h with
  | var c E b1 b2 b3 b4 => exact .var c E b1 b2 b3 fun j hj => low_rel (b4 j hj) (lows_at hl j hj)
  | row xs b1 b2 b3 b4 b5 b6 b7 => exact .row xs hl.1 b2 b3 b4 b5 b6 fun k hk j hj => low_rel (b7 k hk j hj) (lows_at (hl.2 _ (List.getElem_mem hk)) j hj)
  | map e c b1 b2 b3 b4 b4' b5 b6 b7 => exact .map e c b1 b2 b3 b4 b4' b5 b6 fun k hk => low_rel (b7 k hk) (hl _ (List.getElem_mem hk))
  | iter hb => exact .iter hb

/-- What is forgotten: objects and places, so that fewer objects remain. -/
structure Low (env : Env) (σ : St) (env' : Env) (σ' : St) : Prop where
  nx : σ'.next ≤ σ.next
  ob : ∀ i o, σ'.obj i = some o → i < σ'.next ∧ σ.obj i = some o ∧ o.low σ'.next
  en : ∀ t, env' t = .any ∨ (env' t = env t ∧ low σ'.next (env t) = true)

theorem Low.rel {F : FH} {η : Et} {nt : Nat} {env env' : Env} {σ σ' : St} {a : Act} {w : World} (h : Low env σ env' σ') (hr : Rel F η nt env σ a w) : Rel F η nt env' σ' a w := by
  refine ⟨hr.fr, ⟨fun i o ho => (h.ob i o ho).1, fun i o ho => low_orel (hr.st.ob i o (h.ob i o ho).2.1) (h.ob i o ho).2.2, ?_, fun i o b ho => hr.st.fr i o b (h.ob i o ho).2.1⟩, fun t => ?_, hr.sz, hr.df⟩
  · exact fun i j oi oj b hi hj => hr.st.ap i j oi oj b (h.ob i oi hi).2.1 (h.ob j oj hj).2.1
  · rcases h.en t with h1 | ⟨h1, h2⟩
    · rw [h1]; exact .any _
    · rw [h1]; exact low_rel (hr.en t) h2

theorem Low.step {F F' : FH} {η η' : Et} {σ0 σ σ' : St} {env env' : Env} {w0 w : World} (h : Low env σ env' σ') (hs : Step F η σ0 w0 F' η' σ w) (hn : σ0.next ≤ σ'.next) : Step F η σ0 w0 F' η' σ' w :=
  ⟨hs.fh, hs.et, hn, hs.gr, hs.fm, fun i o b ho => hs.nw i o b (h.ob i o ho).2.1, hs.nf⟩

/-- A loop whose heads are described by a family of descriptions. -/
theorem ok_for {X : Cfg} {nt : Nat} {Q : Exit → Env → St → Prop} {env : Env} {σ : St} {c : Code} {ι : Type} (E : ι → Env) (S : ι → St) (inv : ι → Prop) (μ : ι → Nat) (x0 : ι) (hi : inv x0)
    (h0 : Turn X nt env σ (E x0) (S x0)) (hS : ∀ x, (S x0).next ≤ (S x).next)
    (round : ∀ x, inv x → Ok X nt c (andThen (fun env σ => ∃ y, inv y ∧ μ y < μ x ∧ Low env σ (E y) (S y)) Q) (E x) (S x)) : Ok X nt (.loop c) Q env σ := by
  refine ok_turn h0 ?_
  intro F0 η0 a0 w0 hg0 hr0
  let J : Act → World → Nat → Prop := fun a w n => ∃ F η x, inv x ∧ μ x = n ∧ Step F0 η0 (S x0) w0 F η (S x) w ∧ GRel X F ∧ Rel F η nt (E x) (S x) a w
  intro b k cs
  have key : ∀ n a w, J a w n → ∃ e a' w', Post X nt F0 η0 (S x0) w0 Q e a' w' ∧ Arrives X.P (lone (b.at a (.code c :: .inLoop c :: k)) cs w) b k cs e a' w' := by
    intro n
    induction n using Nat.strongRecOn with
    | _ n ih =>
      intro a w hJ
      obtain ⟨F, η, x, hx, hμ, hs, hg, hr⟩ := hJ
      obtain ⟨e, a₁, w₁, hq, harr⟩ := round x hx F η a w hg hr b (.inLoop c :: k) cs
      cases e with
      | normal =>
        obtain ⟨F1, η1, env1, σ1, s1, g1, r1, y, hy, hlt, hlow⟩ := hq
        obtain ⟨e₂, a₂, w₂, hq₂, harr₂⟩ := ih (μ y) (by omega) a₁ w₁ ⟨F1, η1, y, hy, rfl, hlow.step (hs.trans s1) (hS y), g1, hlow.rel r1⟩
        exact ⟨e₂, a₂, w₂, hq₂, .of_steps (Steps.trans harr (.one step_inLoop)) harr₂⟩
      | exit id => exact ⟨_, a₁, w₁, hq.trans hs (fun _ _ h => h), .pass (x := .inLoop c) rfl (fun _ _ => .inl (by simp)) harr⟩
      | goto l => exact ⟨_, a₁, w₁, hq.trans hs (fun _ _ h => h), .pass (x := .inLoop c) rfl (fun _ _ => .inl (by simp)) harr⟩
      | ret => exact ⟨_, a₁, w₁, hq.trans hs (fun _ _ h => h), .pass (x := .inLoop c) rfl (fun _ _ => .inl (by simp)) harr⟩
      | panic ch => exact ⟨_, a₁, w₁, hq.trans hs (fun _ _ h => h), .pass (x := .inLoop c) rfl (fun _ _ => .inl (by simp)) harr⟩
      | outgrown => exact ⟨_, a₁, w₁, hq.trans hs (fun _ _ h => h), .pass (x := .inLoop c) rfl (fun _ _ => .inl (by simp)) harr⟩
  obtain ⟨e, a', w', hq, harr⟩ := key (μ x0) a0 w0 ⟨F0, η0, x0, hi, rfl, .refl _ _ _ _, hg0, hr0⟩
  exact ⟨e, a', w', hq, .of_steps (.one step_loop) harr⟩

/-! ### freezing -/

/-- How a value may be looked at once the row i is frozen. -/
inductive Frz (z : Option (Nat × Nat × List (List D))) : AV → AV → Prop
  | refl (x : AV) : Frz z x x
  | any (x : AV) : Frz z x .any
  | nil : Frz z (.d (.s (.slice none 0 0))) (.d (.im []))
  | sl {i v : Nat} {rows : List (List D)} {lo hi : Nat} {rs : List (List D)} (h : z = some (i, v, rows)) (hle : hi ≤ rows.length) (e : rs = (rows.drop lo).take (hi - lo)) : Frz z (.sl i v lo hi) (.d (.im rs))
  | agg {cs cs' : List AV} (hl : cs'.length = cs.length) (h : ∀ j (h1 : j < cs.length) (h2 : j < cs'.length), Frz z cs[j] cs'[j]) : Frz z (.agg cs) (.agg cs')
  | tup {cs cs' : List AV} (hl : cs'.length = cs.length) (h : ∀ j (h1 : j < cs.length) (h2 : j < cs'.length), Frz z cs[j] cs'[j]) : Frz z (.tup cs) (.tup cs')

def OFrz (z : Option (Nat × Nat × List (List D))) : AO → AO → Prop
  | .var cs, .var cs' => cs'.length = cs.length ∧ ∀ j (h1 : j < cs.length) (h2 : j < cs'.length), Frz z cs[j] cs'[j]
  | .row v E sz rows, .row v' E' sz' rows' => v = v' ∧ E = E' ∧ sz = sz' ∧ rows = rows'
  | .map k es, .map k' es' => k = k' ∧ es = es'
  | .iter x, .iter y => x = y
  | _, _ => False

theorem ofrz_refl (z : Option (Nat × Nat × List (List D))) (o : AO) : OFrz z o o := by
  cases o with
  | var cs => exact ⟨rfl, fun j _ _ => .refl _⟩
  | row => exact ⟨rfl, rfl, rfl, rfl⟩
  | map => exact ⟨rfl, rfl⟩
  | iter x => exact rfl

/-- The row's memory, frozen. -/
def FH.with (F : FH) (b : Nat) (o : Obj) : FH := fun b' => if b' = b then some o else F b'

theorem frz_rel {F : FH} {η : Et} {n : Nat} {z : Option (Nat × Nat × List (List D))}
    (hz : ∀ i v rows, z = some (i, v, rows) → ∀ lo hi u, hi ≤ rows.length → VRel F η n (.sl i v lo hi) u → DRel F (.im ((rows.drop lo).take (hi - lo))) u) {x y : AV} (h : Frz z x y) :
    ∀ {u : Value}, VRel F η n x u → VRel F η n y u := by
  induction h with
  | refl x => intro u h; exact h
  | any x => intro u _; exact .any u
  | nil => intro u h; have := h.s_inv; subst this; exact .d (.im0 none 0)
  | sl h hle e => intro u hu; subst e; exact .d (hz _ _ _ h _ _ _ hle hu)
  | agg hl _ ih =>
    intro u hu
    cases hu with
    | agg h1 h2 => exact .agg (by rw [h1, hl]) fun j hj => ih j (by omega) hj (h2 j (by omega))
  | tup hl _ ih =>
    intro u hu
    cases hu with
    | tup h1 h2 => exact .tup (by rw [h1, hl]) fun j hj => ih j (by omega) hj (h2 j (by omega))

theorem frz_keep {F : FH} {η : Et} {n : Nat} {w : World} {i : Nat} {z : Option (Nat × Nat × List (List D))}
    (hz : ∀ i v rows, z = some (i, v, rows) → ∀ lo hi u, hi ≤ rows.length → VRel F η n (.sl i v lo hi) u → DRel F (.im ((rows.drop lo).take (hi - lo))) u) {o o' : AO} (hf : OFrz z o o')
    (h : ORel F η n w i o) : ORel F η n w i o' ∧ own η i o' = own η i o := by
  cases h with
  | var c E b1 b2 b3 b4 =>
    cases o' with
    | var cs' => exact ⟨.var c E b1 (by rw [b2, hf.1]) (fun j hj => b3 j (by rw [← hf.1]; exact hj)) fun j hj => frz_rel hz (hf.2 j (by rw [← hf.1]; exact hj) hj) (b4 j (by rw [← hf.1]; exact hj)), rfl⟩
    | row => exact hf.elim
    | map => exact hf.elim
    | iter => exact hf.elim
  | row xs b1 b2 b3 b4 b5 b6 b7 =>
    cases o' with
    | row => obtain ⟨rfl, rfl, rfl, rfl⟩ := hf; exact ⟨.row xs b1 b2 b3 b4 b5 b6 b7, rfl⟩
    | var => exact hf.elim
    | map => exact hf.elim
    | iter => exact hf.elim
  | map e c b1 b2 b3 b4 b4' b5 b6 b7 =>
    cases o' with
    | map => obtain ⟨rfl, rfl⟩ := hf; exact ⟨.map e c b1 b2 b3 b4 b4' b5 b6 b7, rfl⟩
    | var => exact hf.elim
    | row => exact hf.elim
    | iter => exact hf.elim
  | iter hb =>
    cases o' with
    | iter y => cases hf; exact ⟨.iter hb, rfl⟩
    | var => exact hf.elim
    | row => exact hf.elim
    | map => exact hf.elim

/-- Nothing is frozen, but values may be looked at with less. -/
theorem turn_weak {X : Cfg} {nt : Nat} {env env' : Env} {σ σ' : St} (hn : σ'.next = σ.next) (ho : ∀ j o', σ'.obj j = some o' → ∃ o, σ.obj j = some o ∧ OFrz none o o') (he : ∀ t, Frz none (env t) (env' t)) :
    Turn X nt env σ env' σ' := by
  intro F η a w hg hr
  have hz : ∀ i v rows, (none : Option (Nat × Nat × List (List D))) = some (i, v, rows) → ∀ lo hi u, hi ≤ rows.length → VRel F η σ.next (.sl i v lo hi) u → DRel F (.im ((rows.drop lo).take (hi - lo))) u :=
    fun i v rows h => by cases h
  have hown : ∀ j o', σ'.obj j = some o' → ∃ o, σ.obj j = some o ∧ own η j o' = own η j o ∧ ORel F η σ.next w j o' := by
    intro j o' hj
    obtain ⟨o, h1, h2⟩ := ho j o' hj
    obtain ⟨h3, h4⟩ := frz_keep hz h2 (hr.st.ob j o h1)
    exact ⟨o, h1, h4, h3⟩
  refine ⟨F, η, ⟨F.le_refl, Et.agree_refl _ _, by omega, .refl _, fun _ _ _ => rfl, ?_, fun _ _ h _ => .inl h⟩, hg, ⟨hr.fr, ⟨?_, ?_, ?_, ?_⟩, ?_, hr.sz, hr.df⟩⟩
  · intro j o' b hj hb _
    obtain ⟨o, h1, h2, _⟩ := hown j o' hj
    exact ⟨j, o, h1, by rw [← h2]; exact hb⟩
  · intro j o' hj
    obtain ⟨o, h1, _⟩ := hown j o' hj
    rw [hn]; exact hr.st.lt j o h1
  · intro j o' hj
    obtain ⟨o, h1, _, h3⟩ := hown j o' hj
    rw [hn]; exact h3
  · intro j k oj ok b hj hk hbj hbk
    obtain ⟨o1, h1, h2, _⟩ := hown j oj hj
    obtain ⟨o3, h3, h4, _⟩ := hown k ok hk
    exact hr.st.ap j k o1 o3 b h1 h3 (by rw [← h2]; exact hbj) (by rw [← h4]; exact hbk)
  · intro j oj b hj hb
    obtain ⟨o1, h1, h2, _⟩ := hown j oj hj
    exact hr.st.fr j o1 b h1 (by rw [← h2]; exact hb)
  · intro t
    rw [hn]
    exact frz_rel hz (he t) (hr.en t)

theorem sl_rows {α : Type} {rows : List α} {lo hi k : Nat} (hk : k < ((rows.drop lo).take (hi - lo)).length) : ∃ h : lo + k < rows.length, ((rows.drop lo).take (hi - lo))[k] = rows[lo + k] := by
  simp only [List.length_take, List.length_drop] at hk
  exact ⟨by omega, by simp⟩

/-- A row is frozen: nothing writes it any more. -/
theorem turn_freeze {X : Cfg} {nt : Nat} {env env' : Env} {σ σ' : St} (i : Nat) {v E sz : Nat} {rows : List (List D)} (hi : σ.obj i = some (.row v E sz (rows.map (·.map .d)))) (hn : σ'.next = σ.next)
    (ho : ∀ j o', σ'.obj j = some o' → j ≠ i ∧ ∃ o, σ.obj j = some o ∧ OFrz (some (i, v, rows)) o o') (he : ∀ t, Frz (some (i, v, rows)) (env t) (env' t)) : Turn X nt env σ env' σ' := by
  intro F η a w hg hr
  have hrow := hr.st.ob i _ hi
  obtain ⟨F', hle, hF', hnone, hz⟩ : ∃ F' : FH, F.le F' ∧ (∀ b o, F' b = some o → F b = some o ∨ (own η i (.row v E sz (rows.map (·.map .d))) = some b ∧ w.heap[b]? = some o)) ∧ True ∧
      (∀ i1 v1 rows1, (some (i, v, rows) : Option (Nat × Nat × List (List D))) = some (i1, v1, rows1) → ∀ lo top u, top ≤ rows1.length → VRel F' η σ.next (.sl i1 v1 lo top) u → DRel F' (.im ((rows1.drop lo).take (top - lo))) u) := by
    generalize hrr : AO.row v E sz (rows.map (·.map .d)) = oo at hrow
    cases hrow with
    | var => cases hrr
    | map => cases hrr
    | iter => cases hrr
    | row xs b1 b2 b3 b4 b5 b6 b7 =>
      simp only [AO.row.injEq] at hrr
      obtain ⟨rfl, rfl, rfl, rfl⟩ := hrr
      cases hblk : (η.hdr v).blk with
      | none =>
        have hl := own_row_nil b4 hblk
        simp only [List.length_map] at hl
        refine ⟨F, F.le_refl, fun b o h => .inl h, trivial, ?_⟩
        intro i1 v1 rows1 e lo top u hle hu
        simp only [Option.some.injEq, Prod.mk.injEq] at e
        obtain ⟨rfl, rfl, rfl⟩ := e
        have : rows = [] := List.eq_nil_of_length_eq_zero hl
        subst this
        simp only [List.drop_nil, List.take_nil]
        cases hu with
        | sl h1 h2 hh hle2 hc hoff =>
          rw [hh] at hblk; cases hblk
        | sl0 => exact .im0 none 0
      | some b =>
        obtain ⟨cur, hg1, hn1, hcap1, hsz1, htk⟩ := own_row_blk b4 hblk
        have hFb : F b = none := hr.st.fr i _ b hi (by simp only [own]; exact hblk)
        have hle : F.le (F.with b (.cells cur E (0, 0))) := by
          intro b' o h'
          simp only [FH.with]
          by_cases hbb : b' = b
          · subst hbb; rw [hFb] at h'; cases h'
          · simp only [hbb, if_false]; exact h'
        refine ⟨F.with b (.cells cur E (0, 0)), hle, ?_, trivial, ?_⟩
        · intro b' o h'
          simp only [FH.with] at h'
          by_cases hbb : b' = b
          · subst hbb
            simp only [if_true, Option.some.injEq] at h'
            subst h'
            exact .inr ⟨by simp only [own]; exact hblk, hg1⟩
          · simp only [hbb, if_false] at h'; exact .inl h'
        · intro i1 v1 rows1 e lo top u hle1 hu
          simp only [Option.some.injEq, Prod.mk.injEq] at e
          obtain ⟨rfl, rfl, rfl⟩ := e
          simp only [List.length_map] at hn1 htk
          have hsr : ∀ r ∈ rows, r.length = sz := fun r hrm => by simpa using b5 (r.map .d) (by simp only [List.mem_map]; exact ⟨r, hrm, rfl⟩)
          have hxl : xs.length = rows.length * sz := by
            have h1 : rows.length * sz ≤ cur.size := by rw [hsz1]; exact Nat.mul_le_mul_right _ hn1
            rw [← htk, List.length_take, Array.length_toList]
            exact Nat.min_eq_left h1
          have hxc : ∀ m, m < rows.length * sz → cur[m]? = some (xs.getD m undef) := by
            intro m hm
            have h1 : xs[m]? = cur[m]? := by rw [← htk, List.getElem?_take, if_pos hm, Array.getElem?_toList]
            rw [← h1, List.getElem?_eq_getElem (by omega)]
            simp [List.getD, List.getElem?_eq_getElem (show m < xs.length by omega)]
          cases hu with
          | @sl _ _ _ _ b' cap' sz' off h1 h2 hh hle2 hc hoff =>
            rw [hh] at hblk
            simp only [Option.some.injEq] at hblk
            subst hblk
            have hsz' : sz' = sz := by rw [hh] at b2; exact b2
            subst hsz'
            have hcap : (η.hdr v).cap = cap' := by rw [hh]
            rcases Nat.lt_or_ge lo top with hlt | hge
            · have hoff' := hoff (by omega)
              subst hoff'
              have hlen : ((rows.drop lo).take (top - lo)).length = top - lo := by simp only [List.length_take, List.length_drop]; omega
              have key : DRel (F.with b' (.cells cur E (0, 0))) (.im ((rows.drop lo).take (top - lo))) (.slice (some ⟨b', lo * sz', none⟩) ((rows.drop lo).take (top - lo)).length (cap' - lo)) := by
               refine .im _ b' (lo * sz') (cap' - lo) sz' cur E (0, 0) (fun k j => xs.getD ((lo + k) * sz' + j) undef) (by simp [FH.with]) (by omega) ?_ ?_ ?_ ?_
               · intro r hrm
                 exact hsr r (List.mem_of_mem_drop (List.mem_of_mem_take hrm))
               · intro k hk j hj
                 have : lo * sz' + k * sz' + j = (lo + k) * sz' + j := by rw [Nat.add_mul]
                 rw [this]
                 exact hxc _ (row_lt (by omega) hj)
               · intro k hk j hj
                 refine b6 _ ?_
                 have hm : (lo + k) * sz' + j < xs.length := by rw [hxl]; exact row_lt (by omega) hj
                 simp only [List.getD, List.getElem?_eq_getElem hm, Option.getD_some]
                 exact List.getElem_mem hm
               · intro k hk j hj
                 obtain ⟨hk2, e2⟩ := sl_rows hk
                 have hj2 : j < (rows[lo + k]).length := by rw [← e2]; exact hj
                 have := b7 (lo + k) (by simpa using hk2) j (by simpa using hj2)
                 simp only [List.getElem_map] at this
                 have e3 : ((rows.drop lo).take (top - lo))[k][j] = rows[lo + k][j] := by
                   simp only [e2]
                 rw [e3]
                 cases this with
                 | d hd => exact hd.mono hle
              rw [hlen] at key
              exact key
            · have : (rows.drop lo).take (top - lo) = [] := by rw [show top - lo = 0 by omega]; simp
              rw [this, show top - lo = 0 by omega]
              exact .im0 _ _
          | sl0 h1 h2 hh => rw [hh] at hblk; cases hblk
  have hst : ∀ j o, σ.obj j = some o → ORel F' η σ.next w j o := fun j o hj => (hr.st.ob j o hj).mono (hr.st.lt j o hj) hle (Et.agree_refl _ _) (Nat.le_refl _) fun _ _ => rfl
  have hown : ∀ j o', σ'.obj j = some o' → j ≠ i ∧ ∃ o, σ.obj j = some o ∧ own η j o' = own η j o ∧ ORel F' η σ.next w j o' := by
    intro j o' hj
    obtain ⟨hji, o, h1, h2⟩ := ho j o' hj
    obtain ⟨h3, h4⟩ := frz_keep hz h2 (hst j o h1)
    exact ⟨hji, o, h1, h4, h3⟩
  refine ⟨F', η, ⟨hle, Et.agree_refl _ _, by omega, .refl _, fun _ _ _ => rfl, ?_, ?_⟩, hg.mono hle, ⟨?_, ⟨?_, ?_, ?_, ?_⟩, ?_, hr.sz, hr.df⟩⟩
  · intro j o' b hj hb _
    obtain ⟨_, o, h1, h2, _⟩ := hown j o' hj
    exact ⟨j, o, h1, by rw [← h2]; exact hb⟩
  · intro b o hb _
    rcases hF' b o hb with h | ⟨h, _⟩
    · exact .inl h
    · exact .inr ⟨i, _, hi, h⟩
  · intro b o hb
    rcases hF' b o hb with h | ⟨_, h⟩
    · exact hr.fr b o h
    · exact h
  · intro j o' hj
    obtain ⟨_, o, h1, _⟩ := hown j o' hj
    rw [hn]; exact hr.st.lt j o h1
  · intro j o' hj
    obtain ⟨_, o, h1, _, h3⟩ := hown j o' hj
    rw [hn]; exact h3
  · intro j k oj ok b hj hk hbj hbk
    obtain ⟨_, o1, h1, h2, _⟩ := hown j oj hj
    obtain ⟨_, o3, h3, h4, _⟩ := hown k ok hk
    exact hr.st.ap j k o1 o3 b h1 h3 (by rw [← h2]; exact hbj) (by rw [← h4]; exact hbk)
  · intro j oj b hj hb
    obtain ⟨hji, o1, h1, h2, _⟩ := hown j oj hj
    have hb1 : own η j o1 = some b := by rw [← h2]; exact hb
    have h0 := hr.st.fr j o1 b h1 hb1
    cases hFb : F' b with
    | none => rfl
    | some o =>
      rcases hF' b o hFb with h | ⟨h, _⟩
      · rw [h0] at h; cases h
      · exact absurd (hr.st.ap j i o1 _ b h1 hi hb1 h) hji
  · intro t
    rw [hn]
    exact frz_rel hz (he t) ((hr.en t).mono hle (Et.agree_refl _ _) (Nat.le_refl _))

/-- A nil slice becomes an object without elements. -/
inductive Own (n : Nat) : AV → AV → Prop
  | refl (x : AV) : Own n x x
  | nil : Own n (.d (.s (.slice none 0 0))) (.sl n n 0 0)
  | agg {cs cs' : List AV} (hl : cs'.length = cs.length) (h : ∀ j (h1 : j < cs.length) (h2 : j < cs'.length), Own n cs[j] cs'[j]) : Own n (.agg cs) (.agg cs')

def OOwn (n : Nat) : AO → AO → Prop
  | .var cs, .var cs' => cs'.length = cs.length ∧ ∀ j (h1 : j < cs.length) (h2 : j < cs'.length), Own n cs[j] cs'[j]
  | o, o' => o = o'

theorem own_rel {F : FH} {η : Et} {n m sz cap : Nat} (hh : η.hdr n = ⟨none, cap, sz⟩) (hm : n < m) {x y : AV} (h : Own n x y) : ∀ {u : Value}, VRel F η m x u → VRel F η m y u := by
  induction h with
  | refl x => intro u h; exact h
  | nil => intro u h; have := h.s_inv; subst this; exact .sl0 hm hm hh
  | agg hl _ ih =>
    intro u hu
    cases hu with
    | agg h1 h2 => exact .agg (by rw [h1, hl]) fun j hj => ih j (by omega) hj (h2 j (by omega))

theorem turn_own {X : Cfg} {nt : Nat} {env env' : Env} {σ σ' : St} (E sz : Nat) (hp : 0 < sz) (hn : σ'.next = σ.next + 1) (hnew : σ'.obj σ.next = some (.row σ.next E sz []))
    (ho : ∀ j o', j ≠ σ.next → σ'.obj j = some o' → ∃ o, σ.obj j = some o ∧ OOwn σ.next o o') (he : ∀ t, Own σ.next (env t) (env' t)) : Turn X nt env σ env' σ' := by
  intro F η a w hg hr
  obtain ⟨η', s1, f1, r1, hh⟩ := new_nil hr.fr hr.st E sz hp
  have hob : ∀ j o', σ'.obj j = some o' → ∃ o, (σ.alloc (.row σ.next E sz [])).obj j = some o ∧ own η' j o' = own η' j o ∧ ORel F η' (σ.next + 1) w j o' := by
    intro j o' hj
    by_cases hjn : j = σ.next
    · subst hjn
      rw [hnew] at hj
      simp only [Option.some.injEq] at hj
      subst hj
      exact ⟨_, by simp [St.alloc], rfl, r1.ob _ _ (by simp [St.alloc])⟩
    · obtain ⟨o, h1, h2⟩ := ho j o' hjn hj
      have h1' : (σ.alloc (.row σ.next E sz [])).obj j = some o := by simp [St.alloc, hjn, h1]
      have h3 := r1.ob j o h1'
      refine ⟨o, h1', ?_⟩
      cases h3 with
      | var c Ec b1 b2 b3 b4 =>
        cases o' with
        | var cs' => exact ⟨rfl, .var c Ec b1 (by rw [b2, h2.1]) (fun j hj => b3 j (by rw [← h2.1]; exact hj)) fun j hj => own_rel hh (Nat.lt_succ_self _) (h2.2 j (by rw [← h2.1]; exact hj) hj) (b4 j (by rw [← h2.1]; exact hj))⟩
        | row => cases h2
        | map => cases h2
        | iter => cases h2
      | row xs b1 b2 b3 b4 b5 b6 b7 =>
        cases h2
        exact ⟨rfl, .row xs b1 b2 b3 b4 b5 b6 b7⟩
      | map e c b1 b2 b3 b4 b4' b5 b6 b7 =>
        cases h2
        exact ⟨rfl, .map e c b1 b2 b3 b4 b4' b5 b6 b7⟩
      | iter hb => cases h2; exact ⟨rfl, .iter hb⟩
  refine ⟨F, η', ⟨s1.fh, s1.et, by omega, s1.gr, s1.fm, ?_, s1.nf⟩, hg, ⟨f1, ⟨?_, ?_, ?_, ?_⟩, ?_, hr.sz, hr.df⟩⟩
  · intro j o' b hj hb hlt
    obtain ⟨o, h1, h2, _⟩ := hob j o' hj
    exact s1.nw j o b h1 (by rw [← h2]; exact hb) hlt
  · intro j o' hj
    obtain ⟨o, h1, _⟩ := hob j o' hj
    rw [hn]; exact r1.lt j o h1
  · intro j o' hj
    obtain ⟨o, _, _, h3⟩ := hob j o' hj
    rw [hn]; exact h3
  · intro j k oj ok b hj hk hbj hbk
    obtain ⟨o1, h1, h2, _⟩ := hob j oj hj
    obtain ⟨o3, h3, h4, _⟩ := hob k ok hk
    exact r1.ap j k o1 o3 b h1 h3 (by rw [← h2]; exact hbj) (by rw [← h4]; exact hbk)
  · intro j oj b hj hb
    obtain ⟨o1, h1, h2, _⟩ := hob j oj hj
    exact r1.fr j o1 b h1 (by rw [← h2]; exact hb)
  · intro t
    rw [hn]
    exact own_rel hh (Nat.lt_succ_self _) (he t) ((hr.en t).mono s1.fh s1.et s1.nx)

/-! ### calls from an empty state -/

def St.nil : St := ⟨fun _ => none, 0⟩

/-- The call gives r; it looks at frozen data alone and gives frozen data. -/
def PFun (X : Cfg) (f : FuncId) (args : List AV) (r : AV) : Prop :=
  lows 0 args = true ∧ low 0 r = true ∧ AFun X f args St.nil fun E _ => E = .ret r

theorem SRel.nil (F : FH) (η : Et) (w : World) : SRel F η St.nil w :=
  ⟨fun i o h => by simp [St.nil] at h, fun i o h => by simp [St.nil] at h, fun i j oi oj b h => by simp [St.nil] at h, fun i o b h => by simp [St.nil] at h⟩

theorem PFun.at {X : Cfg} {f : FuncId} {args : List AV} {r : AV} (h : PFun X f args r) (σ : St) : AFun X f args σ fun E σ' => E = .ret r ∧ σ' = σ := by
  obtain ⟨hl, hlr, hc, h⟩ := h
  refine ⟨hc, fun F η w vals hg hf hs hn hv => ?_⟩
  refine (h F η w vals hg hf (SRel.nil F η w) hn fun j hj => low_rel (hv j hj) (lows_at hl j hj)).mono ?_
  rintro e w' ⟨F', η', σ', E, h1, h2, h3, h4, rfl⟩
  have hfm : ∀ b, b < w.heap.size → w'.heap[b]? = w.heap[b]? := fun b hb => h1.fm b hb fun i o ho => by simp [St.nil] at ho
  have hnf : ∀ b o, F' b = some o → b < w.heap.size → F b = some o := by
    intro b o hb hlt
    rcases h1.nf b o hb hlt with h | ⟨j, oj, hj, _⟩
    · exact h
    · simp [St.nil] at hj
  refine ⟨F', η, σ, .ret r, ⟨h1.fh, Et.agree_refl _ _, Nat.le_refl _, h1.gr, fun b hb _ => hfm b hb, fun i o b ho hb _ => ⟨i, o, ho, hb⟩, fun b o hb hlt => .inl (hnf b o hb hlt)⟩, h2, ⟨hs.lt, fun i o ho => ?_, hs.ap, ?_⟩, ?_, rfl, rfl⟩
  · exact (hs.ob i o ho).mono (hs.lt i o ho) h1.fh (Et.agree_refl _ _) (Nat.le_refl _) fun b hb => hfm b ((hs.ob i o ho).own_lt hb)
  · intro i o b ho hb
    have h0 := hs.fr i o b ho hb
    cases hFb : F' b with
    | none => rfl
    | some o' =>
      have := hnf b o' hFb ((hs.ob i o ho).own_lt hb)
      rw [h0] at this; cases this
  · cases e with
    | returned v =>
      have h5 : VRel F' η' σ'.next r v := h4
      have h6 : VRel F' η' 0 r v := low_rel h5 hlr
      exact h6.mono F'.le_refl (fun i hi => by omega) (Nat.zero_le _)
    | panicked c => exact h4.elim
    | outgrown => exact h4.elim
end Go.Pm
