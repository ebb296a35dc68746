/- Plain law: codes. -/
import Derived.Test.YtghgkmifoiokjaaDoorPl1
set_option linter.unusedVariables false
set_option linter.unusedSimpArgs false
namespace Go.Pm
def postG : Int → List Itm → Int → Bool
  | h, [], t => decide (h = t)
  | h, x :: l, t => if h < arityI x.op then false else postG (h + (1 - arityI x.op)) l t
theorem postG_one (l : List Itm) : ∀ h, postI h l = postG h l 1 := by
  induction l with
  | nil => intro h; rfl
  | cons x l ih => intro h; simp only [postI, postG, ih]
theorem postG_snoc (x : Itm) (t : Int) : ∀ (l : List Itm) (h : Int), postG h (l ++ [x]) t = (postG h l (t + arityI x.op - 1) && decide (1 ≤ t))
  | [], h => by
    simp only [List.nil_append, postG]
    by_cases h1 : h < arityI x.op
    · rw [if_pos h1]
      by_cases h2 : h = t + arityI x.op - 1
      · simp only [h2, decide_true, Bool.true_and]
        symm; rw [decide_eq_false_iff_not]; omega
      · simp [h2]
    · rw [if_neg h1, Bool.eq_iff_iff]
      simp only [decide_eq_true_eq, Bool.and_eq_true]
      constructor
      · intro h2; omega
      · intro h2; omega
  | y :: l, h => by
    simp only [List.cons_append, postG]
    split
    · rfl
    · exact postG_snoc x t l _
theorem postG_pos : ∀ (l : List Itm) (h t : Int), l ≠ [] → postG h l t = true → 1 ≤ t
  | [], h, t, hl, _ => absurd rfl hl
  | [x], h, t, _, hp => by
    simp only [postG] at hp
    split at hp
    · cases hp
    · simp only [decide_eq_true_eq] at hp; omega
  | x :: y :: l, h, t, _, hp => by
    simp only [postG] at hp
    split at hp
    · cases hp
    · exact postG_pos (y :: l) _ t (by simp) (by simpa only [postG] using hp)
theorem arity_eq {op : Int} (h : 1 ≤ op ∧ op ≤ 24) : sarityI op = arityI op := by unfold sarityI arityI; grind
theorem begin_post (l : List Itm) (hall : ∀ x ∈ l, 1 ≤ x.op ∧ x.op ≤ 24) : ∀ (n : Nat) (need : Int), n ≤ l.length → 1 ≤ need → (beginS l n need = 0 ↔ postG 0 (l.take n) need = true)
  | 0, need, _, hn => by
    simp only [beginS, List.take_zero, postG, decide_eq_true_eq]
    rw [if_neg (by omega)]
    omega
  | n + 1, need, hl, hn => by
    have hlt : n < l.length := by omega
    have hx : l[n]? = some l[n] := by simp [hlt]
    have hop := hall l[n] (List.getElem_mem hlt)
    have har := arityI_range l[n].op
    simp only [beginS]
    rw [if_neg (by omega), hx]
    simp only
    rw [arity_eq hop, if_neg (by omega), List.take_add_one, hx]
    simp only [Option.toList_some]
    rw [postG_snoc]
    simp only [Bool.and_eq_true, decide_eq_true_eq, hn, and_true]
    by_cases h1 : 1 ≤ need + arityI l[n].op - 1
    · exact begin_post l hall n _ (by omega) h1
    · have h0 : need + arityI l[n].op - 1 = 0 := by omega
      rw [h0]
      cases n with
      | zero => simp [beginS, postG]
      | succ m =>
        simp only [beginS]
        rw [if_pos (by omega)]
        constructor
        · intro h; omega
        · intro h
          have := postG_pos _ _ _ (by intro he; have := congrArg List.length he; simp only [List.length_take, List.length_nil] at this; omega) h
          omega
theorem begin_ops (l : List Itm) : ∀ (n : Nat) (need : Int), beginS l n need = 0 → ∀ j x, j < n → l[j]? = some x → 0 ≤ sarityI x.op
  | 0, need, _, j, x, hj, _ => by omega
  | n + 1, need, h, j, x, hj, hx => by
    simp only [beginS] at h
    split at h
    · omega
    · split at h
      · omega
      · rename_i y hy
        split at h
        · omega
        · rename_i hs
          by_cases hjn : j = n
          · subst hjn; rw [hy] at hx; cases hx; omega
          · exact begin_ops l n _ h j x (by omega) hx
theorem code_eq (l : List Itm) : exprI l = oneS l := by
  unfold exprI oneS codeS
  by_cases h1 : (l.length : Int) < 1 ∨ 3000 < (l.length : Int)
  · have h2 : (l.length : Int) < 1 ∨ 3000 < (l.length : Int) ∨ beginS l l.length 1 ≠ 0 := by omega
    simp [h1, h2]
  · by_cases hb : beginS l l.length 1 = 0
    · have h2 : ¬ ((l.length : Int) < 1 ∨ 3000 < (l.length : Int) ∨ beginS l l.length 1 ≠ 0) := by omega
      rw [if_neg h1, if_neg h2, Bool.eq_iff_iff]
      simp only [Bool.and_eq_true, List.all_eq_true]
      have hops : ∀ x ∈ l, 0 ≤ sarityI x.op := by
        intro x hx
        obtain ⟨j, hj⟩ := List.getElem?_of_mem hx
        exact begin_ops l l.length 1 hb j x (drop_some hj).2 hj
      constructor
      · rintro ⟨ha, hp⟩
        refine ⟨fun x hx => ?_, fun x hx => ?_⟩
        · have := ha x hx; rw [item_eq] at this; simp only [Bool.and_eq_true] at this; exact this.1.1
        · have := ha x hx; rw [item_eq] at this; simp only [Bool.and_eq_true] at this; exact this.1.2
      · rintro ⟨ha, hq⟩
        have hr : ∀ x ∈ l, 1 ≤ x.op ∧ x.op ≤ 24 := by
          intro x hx
          have h3 := hops x hx
          have h4 := hq x hx
          simp only [Bool.not_eq_true', decide_eq_false_iff_not] at h4
          unfold sarityI at h3
          grind
        refine ⟨fun x hx => ?_, ?_⟩
        · rw [item_eq]; simp only [Bool.and_eq_true, decide_eq_true_eq]; exact ⟨⟨ha x hx, hq x hx⟩, hr x hx⟩
        · rw [postG_one]
          have := (begin_post l hr l.length 1 (Nat.le_refl _) (by omega)).1 hb
          rwa [List.take_length] at this
    · have h2 : (l.length : Int) < 1 ∨ 3000 < (l.length : Int) ∨ beginS l l.length 1 ≠ 0 := .inr (.inr hb)
      rw [if_neg h1, if_pos h2, Bool.false_and, Bool.eq_false_iff]
      intro hc
      simp only [Bool.and_eq_true, List.all_eq_true] at hc
      obtain ⟨ha, hp⟩ := hc
      have hr : ∀ x ∈ l, 1 ≤ x.op ∧ x.op ≤ 24 := by
        intro x hx
        have := ha x hx
        rw [item_eq] at this
        simp only [Bool.and_eq_true, decide_eq_true_eq] at this
        exact this.2
      rw [postG_one] at hp
      have := (begin_post l hr l.length 1 (Nat.le_refl _) (by omega)).2 (by rw [List.take_length]; exact hp)
      exact hb this
end Go.Pm
