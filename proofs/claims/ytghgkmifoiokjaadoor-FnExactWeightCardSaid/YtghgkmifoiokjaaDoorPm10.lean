/- The abstract machine, tenth text: a program's table of types, checked by one computation. -/
import Derived.Test.YtghgkmifoiokjaaDoorPm9
set_option linter.unusedVariables false
set_option linter.unusedSimpArgs false
namespace Go.Pm

/-- Equality of the values that are zero values of one cell. -/
def veq : Value → Value → Bool
  | .bool a, .bool b => a == b
  | .int j a, .int k b => decide (j = k) && decide (a = b)
  | .string a, .string b => decide (a = b)
  | .pointer none, .pointer none => true
  | .slice none 0 0, .slice none 0 0 => true
  | .map none, .map none => true
  | .nilFunc, .nilFunc => true
  | .nilIface, .nilIface => true
  | _, _ => false

theorem veq_eq {a b : Value} (h : veq a b = true) : a = b ∧ a.oneCell' = true := by
  unfold veq at h
  split at h <;> first | (simp at h; done) | skip
  all_goals first
    | exact ⟨rfl, rfl⟩
    | (simp at h; subst h; exact ⟨rfl, rfl⟩)
    | (simp at h; obtain ⟨rfl, rfl⟩ := h; exact ⟨rfl, rfl⟩)

def veqs : List Value → List Value → Bool
  | [], [] => true
  | a :: l, b :: m => veq a b && veqs l m
  | _, _ => false

theorem veqs_eq : ∀ {l m : List Value}, veqs l m = true → l = m ∧ l.all (·.oneCell') = true
  | [], [], _ => ⟨rfl, rfl⟩
  | a :: l, b :: m, h => by
    simp only [veqs, Bool.and_eq_true] at h
    obtain ⟨h1, h2⟩ := veq_eq h.1
    obtain ⟨h3, h4⟩ := veqs_eq h.2
    exact ⟨by rw [h1, h3], by simp [h2]; simpa using h4⟩
  | [], b :: m, h => by simp [veqs] at h
  | a :: l, [], h => by simp [veqs] at h

def look (L : List (Option TI)) (t : TypeId) : Option TI :=
  match L[t]? with
  | some x => x
  | none => none

def checkT (P : Program) (L : List (Option TI)) (t : TypeId) (ti : TI) : Bool :=
  match P.underlying t, P.info? t with
  | some d, some i =>
    decide (kindOf d = ti.kind) && decide (i.size = ti.size) && decide (i.bytes = ti.bytes) && decide (ti.zero.length = ti.size) &&
    (match i.zero with
      | some (.agg vs) => isAggK ti.kind && veqs vs.toList ti.zero
      | some z => !isAggK ti.kind && veqs [z] ti.zero
      | none => false) &&
    (match ti.kind with | .struct fs => fs.all fun f => (look L f.2).isSome | _ => true) &&
    (!ti.eqok || ((!P.stoodInHeld t) && (!P.eqGuardType P.depth t) && (match d with | .struct fs => fs.toList.all fun f => decide (f.name ≠ "_") | _ => false)))
  | _, _ => false

def checkAll (P : Program) (L : List (Option TI)) : List (Option TI) → Nat → Bool
  | [], _ => true
  | none :: l, t => checkAll P L l (t + 1)
  | some ti :: l, t => checkT P L t ti && checkAll P L l (t + 1)

theorem checkAll_at {P : Program} {L : List (Option TI)} : ∀ (l : List (Option TI)) (t : Nat), checkAll P L l t = true → ∀ j ti, l[j]? = some (some ti) → checkT P L (t + j) ti = true
  | [], _, _, j, ti, h => by simp at h
  | none :: l, t, hc, j, ti, h => by
    cases j with
    | zero => simp at h
    | succ j =>
      have := checkAll_at l (t + 1) hc j ti (by simpa using h)
      rwa [show t + (j + 1) = t + 1 + j by omega]
  | some x :: l, t, hc, j, ti, h => by
    simp only [checkAll, Bool.and_eq_true] at hc
    cases j with
    | zero => simp at h; subst h; exact hc.1
    | succ j =>
      have := checkAll_at l (t + 1) hc.2 j ti (by simpa using h)
      rwa [show t + (j + 1) = t + 1 + j by omega]

theorem look_check {P : Program} {L : List (Option TI)} (h : checkAll P L L 0 = true) {t : TypeId} {ti : TI} (ht : look L t = some ti) : checkT P L t ti = true := by
  unfold look at ht
  split at ht
  · rename_i x hx
    subst ht
    simpa using checkAll_at L 0 h t ti hx
  · simp at ht

/-- The abstract machine's view of a program. -/
def mkCfg (P : Program) (G : Nat → Option (List D)) (L : List (Option TI)) (h : checkAll P L L 0 = true) : Cfg where
  P := P
  G := G
  T := look L
  ok := by
    intro t ti ht
    have hc := look_check h ht
    unfold checkT at hc
    split at hc
    · rename_i d i hu hi
      simp only [Bool.and_eq_true, decide_eq_true_eq] at hc
      obtain ⟨⟨⟨⟨⟨⟨h1, h2⟩, h3⟩, h4⟩, h5⟩, h6⟩, h7⟩ := hc
      split at h5
      · rename_i vs hz
        simp only [Bool.and_eq_true] at h5
        obtain ⟨h8, h9⟩ := veqs_eq h5.2
        refine ⟨d, i, .agg vs, hu, h1, hi, h2, h3, hz, by simp [Value.cells, ← h8], h4, by rw [← h8]; exact h9, by simp [h5.1], fun _ => by simp [← h8]⟩
      · rename_i z hnz hz
        simp only [Bool.and_eq_true, Bool.not_eq_true'] at h5
        obtain ⟨h8, h9⟩ := veqs_eq h5.2
        have hcz : z.cells = #[z] := by cases z <;> first | rfl | exact (hnz _ rfl).elim
        exact ⟨d, i, z, hu, h1, hi, h2, h3, hz, by rw [hcz, ← h8], h4, by rw [← h8]; exact h9, fun _ => by rw [← h8]; rfl, by simp [h5.1]⟩
      · simp at h5
    · simp at hc
  cl := by
    intro t ti fs ht hk f hf
    have hc := look_check h ht
    unfold checkT at hc
    split at hc
    · simp only [Bool.and_eq_true, hk] at hc
      exact List.all_eq_true.1 hc.1.2 f hf
    · simp at hc
  eq := by
    intro t ti ht he
    have hc := look_check h ht
    unfold checkT at hc
    split at hc
    · rename_i d i hu hi
      simp only [Bool.and_eq_true, he, Bool.not_true, Bool.false_or] at hc
      obtain ⟨⟨h1, h2⟩, h3⟩ := hc.2
      split at h3
      · rename_i fs
        exact ⟨by simpa using h1, by simpa using h2, fs, hu, fun f hf => by simpa using List.all_eq_true.1 h3 f hf⟩
      · simp at h3
    · simp at hc
end Go.Pm
