/- Plain law: shapes. -/
import Derived.Test.YtghgkmifoiokjaaDoorPl2
set_option linter.unusedVariables false
set_option linter.unusedSimpArgs false
namespace Go.Pm
theorem nameIS : nameI = nameS := funext name_eq
theorem exprIS : exprI = oneS := funext code_eq
theorem eqn_eq (e : Eqn) : eqI e = eqS e := by
  unfold eqI eqS
  rw [nameIS, exprIS]
  by_cases h1 : (e.lhs.length : Int) < 1 ∨ 500 < (e.lhs.length : Int) ∨ 500 < (e.args.length : Int)
  · simp only [h1, if_true, ite_self]
  · simp only [h1, if_false]
    cases h2 : e.lhs.all nameS with
    | false => simp
    | true =>
      simp only [Bool.not_true, Bool.false_eq_true, if_false]
      by_cases h3 : e.call = ⟨#[]⟩
      · simp only [h3, if_true, List.all_cons, List.all_nil, Bool.and_true]
        by_cases h4 : (e.lhs.length : Int) ≠ 1
        · simp [h4]
        · by_cases h5 : (e.args.length : Int) = 0
          · have h6 : ¬ 0 < (e.args.length : Int) := by omega
            cases h7 : oneS e.code <;> simp [h4, h5, h6, h7]
          · have h6 : 0 < (e.args.length : Int) := by omega
            rw [if_pos (.inr (.inl h6)), if_pos (.inr h5)]
      · simp only [h3, if_false]
        cases h4 : nameS e.call with
        | false => simp
        | true =>
          by_cases h5 : (e.code.length : Int) = 0
          · have h6 : ¬ 0 < (e.code.length : Int) := by omega
            simp [h5, h6]
          · have h6 : 0 < (e.code.length : Int) := by omega
            rw [if_pos (.inr h6)]
            simp only [ne_eq, h5, not_false_eq_true, decide_true, Bool.or_true, if_true]
theorem v_low {M k : Nat} {v : Vr} {m : Nat} (hk : k < M) (hm : m < 2) : vS M k v = vI m v := by
  unfold vS vI
  rw [nameIS]
  grind
theorem v_high {M k : Nat} {v : Vr} (hk : M ≤ k) : vS M k v = vI 2 v := by
  unfold vS vI
  rw [nameIS]
  grind
theorem vs_append (M : Nat) : ∀ (l l' : List Vr) (k : Nat), vsS M k (l ++ l') = (vsS M k l && vsS M (k + l.length) l')
  | [], l', k => by simp [vsS]
  | v :: l, l', k => by
    simp only [List.cons_append, vsS, vs_append M l l' (k + 1), List.length_cons, Bool.and_assoc]
    rw [show k + 1 + l.length = k + (l.length + 1) by omega]
theorem vs_low {M m : Nat} (hm : m < 2) : ∀ (l : List Vr) (k : Nat), k + l.length ≤ M → vsS M k l = l.all (vI m)
  | [], k, _ => rfl
  | v :: l, k, h => by
    simp only [List.length_cons] at h
    have h1 := v_low (v := v) (show k < M by omega) hm
    have h2 := vs_low (M := M) hm l (k + 1) (by omega)
    simp only [vsS, List.all_cons, h1, h2]
theorem vs_high {M : Nat} : ∀ (l : List Vr) (k : Nat), M ≤ k → vsS M k l = l.all (vI 2)
  | [], k, _ => rfl
  | v :: l, k, h => by
    have h1 := v_high (v := v) h
    have h2 := vs_high l (k + 1) (show M ≤ k + 1 by omega)
    simp only [vsS, List.all_cons, h1, h2]
theorem grp_eq (x : Nod) : grpI 0 [x.ins, x.outs, x.vars] = vsS (x.ins.length + x.outs.length) 0 (varsS x) := by
  unfold varsS
  rw [vs_append, vs_append, vs_low (m := 0) (by omega) x.ins 0 (by omega), vs_low (m := 1) (by omega) x.outs (0 + x.ins.length) (by omega), vs_high x.vars _ (by simp)]
  simp only [grpI, Bool.and_true, Bool.and_assoc]
theorem nod_eq (x : Nod) : nodI x = nodS x := by
  unfold nodI nodS
  rw [nameIS, grp_eq, show eqI = eqS from funext eqn_eq]
  have hl : ((varsS x).length : Int) = (x.ins.length : Int) + (x.outs.length : Int) + (x.vars.length : Int) := by simp only [varsS, List.length_append]; omega
  rw [hl]
  by_cases h1 : (!nameS x.name) = true
  · simp [h1]
  · by_cases h2 : (x.outs.length : Int) < 1 ∨ (x.eqs.length : Int) < 1 ∨ 500 < (x.ins.length : Int) + (x.outs.length : Int) + (x.vars.length : Int) ∨ 500 < (x.eqs.length : Int)
    · rw [if_pos (.inr h2), if_pos (.inr (by omega))]
    · rw [if_neg (by intro h; exact h.elim h1 h2), if_neg (by intro h; exact h.elim h1 (fun h => h2 (by omega)))]
theorem shape_eq (p : List Nod) : shapeI p = shapeS p := by
  unfold shapeI shapeS
  rw [show nodI = nodS from funext nod_eq]
end Go.Pm
