/- Weights: the reference's. -/
import Derived.Test.YtghgkmifoiokjaaDoorPm21
import Derived.Test.YtghgkmifoiokjaaDoorWt2
set_option linter.unusedVariables false
set_option linter.unusedSimpArgs false
namespace Go.Pm
attribute [local irreducible] AR Ok inBlock andThen endQ aoper
set_option maxHeartbeats 1000000
open Go.Proofs
theorem sfby_ok (op : Int) : PFun X 49 [vi op] (vb (isFo op)) := by
  refine pfun_of Tryd.func49 rfl (by decide) Tryd.ntmps49 Tryd.results49 (by simp) rfl rfl ?_
  repeat' first
    | refine Z1 ?_ | refine Z2 ?_ | refine Z3 ?_ | refine Z4 ?_ | refine Z5 ?_ | refine Z6 ?_ | refine Z7 ?_ | refine Z8 ?_ | refine Z9 ?_ | refine Za (fun hc => ?_) (fun hc => ?_) | refine Zb (fun hc => ?_) (fun hc => ?_) | refine Zd ?_
    | refine Ze ?_ | refine Zf ?_ | refine Zg ?_ | refine Zh ?_ | refine Zi ?_ | refine Zj ?_ | refine Zk ?_ | refine Zl ?_ | refine Zm ?_ | refine Zn (fun hc => ?_) (fun hc => ?_) | refine Zo ?_ | refine ok_seq ?_ | refine ok_reg ?_
    | refine Zp ?_ | refine Zq ?_ | refine Zr (fun hc => ?_) (fun hc => ?_) | refine ok_block ?_ | refine ok_exit ?_ | refine ok_skip ?_ | refine ok_ret ?_ | refine x_normal_then ?_ | refine x_exit_here ?_ | refine Zs ?_ | refine Zv ?_
    | refine x_ret_then ?_ | refine x_ret_block ?_ | refine x_normal_block ?_ | refine Zt ?_ | refine Zu ?_
  all_goals simp only [decide_eq_true_eq, decide_eq_false_iff_not, Bool.not_eq_true, Bool.not_eq_false, Bool.not_eq_eq_eq_not, Bool.not_true, Bool.not_false] at *
  all_goals simp [isFo, *]
def codesS (e : Eqn) : List (List Itm) := if e.call = ⟨#[]⟩ then [e.code] else e.args
theorem scodes_ok (e : Eqn) : PFun X 33 [.agg ((eEqn e).map .d)] (.d (.im ((codesS e).map eItms))) := by
  refine pfun_of Tryd.func33 rfl (by decide) Tryd.ntmps33 Tryd.results33 (by simp) rfl rfl ?_
  by_cases hc : e.call = ⟨#[]⟩
  · have d1 : decide (e.call = ⟨#[]⟩) = true := decide_eq_true hc
    repeat' first
      | refine Z1 ?_ | refine Z2 ?_ | refine Z3 ?_ | refine Z4 ?_ | refine Z5 ?_ | refine Z6 ?_ | refine Z7 ?_ | refine Z8 ?_ | refine Z9 ?_ | refine Za (fun hc => ?_) (fun hc => ?_) | refine Zb (fun hc => ?_) (fun hc => ?_) | refine Zd ?_
      | refine Ze ?_ | refine Zf ?_ | refine Zg ?_ | refine Zh ?_ | refine Zi ?_ | refine Zj ?_ | refine Zk ?_ | refine Zl ?_ | refine Zm ?_ | refine Zn (fun hc => ?_) (fun hc => ?_) | refine Zo ?_ | refine ok_seq ?_ | refine ok_reg ?_
      | refine Zp ?_ | refine Zq ?_ | refine Zr (fun hc => ?_) (fun hc => ?_) | refine ok_block ?_ | refine ok_exit ?_ | refine ok_skip ?_ | refine ok_ret ?_ | refine x_normal_then ?_ | refine x_exit_here ?_ | refine Zs ?_ | refine Zv ?_
      | refine x_ret_then ?_ | refine x_ret_block ?_ | refine x_normal_block ?_ | refine Zt ?_ | refine Zu ?_
    simp only [codesS, hc, if_true]; rfl
  · have d1 : decide (e.call = ⟨#[]⟩) = false := decide_eq_false hc
    repeat' first
      | refine Z1 ?_ | refine Z2 ?_ | refine Z3 ?_ | refine Z4 ?_ | refine Z5 ?_ | refine Z6 ?_ | refine Z7 ?_ | refine Z8 ?_ | refine Z9 ?_ | refine Za (fun hc => ?_) (fun hc => ?_) | refine Zb (fun hc => ?_) (fun hc => ?_) | refine Zd ?_
      | refine Ze ?_ | refine Zf ?_ | refine Zg ?_ | refine Zh ?_ | refine Zi ?_ | refine Zj ?_ | refine Zk ?_ | refine Zl ?_ | refine Zm ?_ | refine Zn (fun hc => ?_) (fun hc => ?_) | refine Zo ?_ | refine ok_seq ?_ | refine ok_reg ?_
      | refine Zp ?_ | refine Zq ?_ | refine Zr (fun hc => ?_) (fun hc => ?_) | refine ok_block ?_ | refine ok_exit ?_ | refine ok_skip ?_ | refine ok_ret ?_ | refine x_normal_then ?_ | refine x_exit_here ?_ | refine Zs ?_ | refine Zv ?_
      | refine x_ret_then ?_ | refine x_ret_block ?_ | refine x_normal_block ?_ | refine Zt ?_ | refine Zu ?_
    simp only [codesS, hc, if_false]
def cntS (c : Bool) (L : Nat) : Nat → List Itm → Nat
  | _, [] => 0
  | k, x :: l => (if isF x = true ∧ ¬ (c = true ∧ k + 1 = L) then 1 else 0) + cntS c L (k + 1) l
def cntSs (c : Bool) : List (List Itm) → Nat
  | [] => 0
  | a :: l => cntS c a.length 0 a + cntSs c l
def innerS (e : Eqn) : Nat := cntSs (decide (e.call = ⟨#[]⟩)) (codesS e)
theorem cntS_le (c : Bool) (L : Nat) : ∀ (k : Nat) (l : List Itm), cntS c L k l ≤ l.length
  | _, [] => Nat.le_refl _
  | k, x :: l => by have := cntS_le c L (k + 1) l; simp only [cntS, List.length_cons]; split <;> omega
theorem cntSs_le (c : Bool) : ∀ l : List (List Itm), cntSs c l ≤ lens l
  | [] => Nat.le_refl _
  | a :: l => by have := cntSs_le c l; have := cntS_le c a.length 0 a; simp only [cntSs, lens]; omega
theorem lens_mem {a : List Itm} : ∀ {l : List (List Itm)}, a ∈ l → a.length ≤ lens l
  | b :: l, h => by
    simp only [lens]
    rcases List.mem_cons.1 h with rfl | h
    · omega
    · have := lens_mem h; omega
theorem codes_le (e : Eqn) : lens (codesS e) ≤ wEqn e ∧ (codesS e).length ≤ wEqn e + 1 := by
  have := lens_le e.args
  simp only [wEqn, wL] at this ⊢
  unfold codesS
  split <;> (try simp only [lens, List.length_cons, List.length_nil]) <;> omega
theorem sinner_ok (e : Eqn) (hw : wEqn e ≤ 1048576) : PFun X 32 [.agg ((eEqn e).map .d)] (vi (innerS e)) := by
  obtain ⟨hcl, hcn⟩ := codes_le e
  have hil := cntSs_le (decide (e.call = ⟨#[]⟩)) (codesS e)
  have hnf : (!false) = true := rfl
  have hnt : (!true) = false := rfl
  refine pfun_of Tryd.func32 rfl (by decide) Tryd.ntmps32 Tryd.results32 (by simp) rfl rfl ?_
  repeat' first
    | refine Z1 ?_ | refine Z2 ?_ | refine Z3 ?_ | refine Z4 ?_ | refine Z5 ?_ | refine Z6 ?_ | refine Z7 ?_ | refine Z8 ?_ | refine Z9 ?_ | refine Za (fun hc => ?_) (fun hc => ?_) | refine Zb (fun hc => ?_) (fun hc => ?_)
    | refine Zc (scodes_ok e) ?_ | refine Zd ?_ | refine Ze ?_ | refine Zf ?_ | refine Zg ?_ | refine Zh ?_ | refine Zi ?_ | refine Zj ?_ | refine Zk ?_ | refine Zl ?_ | refine Zm ?_ | refine Zn (fun hc => ?_) (fun hc => ?_) | refine Zo ?_
    | refine ok_seq ?_ | refine ok_reg ?_ | refine Zp ?_ | refine Zq ?_ | refine Zr (fun hc => ?_) (fun hc => ?_) | refine ok_block ?_ | refine ok_exit ?_ | refine ok_skip ?_ | refine ok_ret ?_ | refine x_normal_then ?_
    | refine x_exit_here ?_ | refine Zs ?_ | refine Zv ?_ | refine x_ret_then ?_ | refine x_ret_block ?_ | refine x_normal_block ?_ | refine Zt ?_ | refine Zu ?_
  refine ok_for (ι := Nat × Nat) (fun x => envL [(1, .ref 0 0), (3, vi x.2), (9, .d (.im ((codesS e).map eItms))), (10, vi (codesS e).length), (11, vi x.1)]) (fun x => stL [some (.var ((eEqn e).map .d))]) (fun x => x.1 ≤ (codesS e).length ∧ x.2 + cntSs (decide (e.call = ⟨#[]⟩)) ((codesS e).drop x.1) = innerS e) (fun x => (codesS e).length - x.1) (0, 0) (⟨Nat.zero_le _, by simp [innerS]⟩) (weak_mk rfl ⟨.refl _, .refl _, .refl _, .refl _, .refl _, trivial⟩ ⟨⟨rfl, _, rfl, rfl, fun _ _ _ => .refl _⟩, trivial⟩) (fun _ => Nat.le_refl _) ?_
  rintro ⟨k, n⟩ ⟨i1, i2⟩
  simp only at i1 i2
  rcases hx : (codesS e)[k]? with _ | a
  · have hle := none_le hx
    have ek : decide ((k : Int) < ((codesS e).length : Int)) = false := decide_eq_false (by omega)
    rw [drop_none hx] at i2
    repeat' first
      | refine Z1 ?_ | refine Z2 ?_ | refine Z3 ?_ | refine Z4 ?_ | refine Z5 ?_ | refine Z6 ?_ | refine Z7 ?_ | refine Z8 ?_ | refine Z9 ?_ | refine Za (fun hc => ?_) (fun hc => ?_) | refine Zb (fun hc => ?_) (fun hc => ?_) | refine Zd ?_
      | refine Ze ?_ | refine Zf ?_ | refine Zg ?_ | refine Zh ?_ | refine Zi ?_ | refine Zj ?_ | refine Zk ?_ | refine Zl ?_ | refine Zm ?_ | refine Zn (fun hc => ?_) (fun hc => ?_) | refine Zo ?_ | refine ok_seq ?_ | refine ok_reg ?_
      | refine Zp ?_ | refine Zq ?_ | refine Zr (fun hc => ?_) (fun hc => ?_) | refine ok_block ?_ | refine ok_exit ?_ | refine ok_skip ?_ | refine ok_ret ?_ | refine x_normal_then ?_ | refine x_exit_here ?_ | refine Zs ?_ | refine Zv ?_
      | refine x_ret_then ?_ | refine x_ret_block ?_ | refine x_normal_block ?_ | refine Zt ?_ | refine Zu ?_
    exact ret_vi (by simp only [cntSs] at i2; omega)
  obtain ⟨hd, hlt⟩ := drop_some hx
  have hal := lens_mem (List.mem_of_getElem? hx)
  have ek : decide ((k : Int) < ((codesS e).length : Int)) = true := decide_eq_true (by omega)
  rw [hd] at i2
  simp only [cntSs] at i2
  repeat' first
    | refine Z1 ?_ | refine Z2 ?_ | refine Z3 ?_ | refine Z4 ?_ | refine Z5 ?_ | refine Z6 ?_ | refine Z7 ?_ | refine Z8 ?_ | refine Z9 ?_ | refine Za (fun hc => ?_) (fun hc => ?_) | refine Zb (fun hc => ?_) (fun hc => ?_) | refine Zd ?_
    | refine Ze ?_ | refine Zf ?_ | refine Zg ?_ | refine Zh ?_ | refine Zi ?_ | refine Zj ?_ | refine Zk ?_ | refine Zl ?_ | refine Zm ?_ | refine Zn (fun hc => ?_) (fun hc => ?_) | refine Zo ?_ | refine ok_seq ?_ | refine ok_reg ?_
    | refine Zp ?_ | refine Zq ?_ | refine Zr (fun hc => ?_) (fun hc => ?_) | refine ok_block ?_ | refine ok_exit ?_ | refine ok_skip ?_ | refine ok_ret ?_ | refine x_normal_then ?_ | refine x_exit_here ?_ | refine Zs ?_ | refine Zv ?_
    | refine x_ret_then ?_ | refine x_ret_block ?_ | refine x_normal_block ?_ | refine Zt ?_ | refine Zu ?_
  refine ok_for (ι := Nat × Nat) (fun x => envL [(1, .ref 0 0), (3, vi x.2), (9, .d (.im ((codesS e).map eItms))), (10, vi (codesS e).length), (11, vi k), (5, .d (.im (a.map eItm))), (15, .d (.im (a.map eItm))), (16, vi a.length), (17, vi x.1)]) (fun x => stL [some (.var ((eEqn e).map .d))]) (fun x => x.1 ≤ a.length ∧ x.2 + cntS (decide (e.call = ⟨#[]⟩)) a.length x.1 (a.drop x.1) + cntSs (decide (e.call = ⟨#[]⟩)) ((codesS e).drop (k + 1)) = innerS e) (fun x => a.length - x.1) (0, n) (⟨Nat.zero_le _, by simp only [List.drop_zero]; omega⟩) (weak_mk rfl ⟨.refl _, .refl _, .refl _, .refl _, .refl _, .refl _, .refl _, .refl _, .refl _, trivial⟩ ⟨⟨rfl, _, rfl, rfl, fun _ _ _ => .refl _⟩, trivial⟩) (fun _ => Nat.le_refl _) ?_
  rintro ⟨q, n⟩ ⟨l1, l2⟩
  simp only at l1 l2
  rcases hz : a[q]? with _ | y
  · have hle := none_le hz
    have eq : decide ((q : Int) < (a.length : Int)) = false := decide_eq_false (by omega)
    rw [drop_none hz] at l2
    simp only [cntS] at l2
    repeat' first
      | refine Z1 ?_ | refine Z2 ?_ | refine Z3 ?_ | refine Z4 ?_ | refine Z5 ?_ | refine Z6 ?_ | refine Z7 ?_ | refine Z8 ?_ | refine Z9 ?_ | refine Za (fun hc => ?_) (fun hc => ?_) | refine Zb (fun hc => ?_) (fun hc => ?_) | refine Zd ?_
      | refine Ze ?_ | refine Zf ?_ | refine Zg ?_ | refine Zh ?_ | refine Zi ?_ | refine Zj ?_ | refine Zk ?_ | refine Zl ?_ | refine Zm ?_ | refine Zn (fun hc => ?_) (fun hc => ?_) | refine Zo ?_ | refine ok_seq ?_ | refine ok_reg ?_
      | refine Zp ?_ | refine Zq ?_ | refine Zr (fun hc => ?_) (fun hc => ?_) | refine ok_block ?_ | refine ok_exit ?_ | refine ok_skip ?_ | refine ok_ret ?_ | refine x_normal_then ?_ | refine x_exit_here ?_ | refine Zs ?_ | refine Zv ?_
      | refine x_ret_then ?_ | refine x_ret_block ?_ | refine x_normal_block ?_ | refine Zt ?_ | refine Zu ?_
    exact ⟨(k + 1, n), ⟨hlt, by simp only; omega⟩, by (try simp only); omega, low_mk (Nat.le_of_ble_eq_true rfl) ⟨⟨rfl, rfl⟩, ⟨rfl, rfl⟩, ⟨rfl, rfl⟩, ⟨rfl, rfl⟩, ⟨rfl, rfl⟩, trivial⟩ ⟨⟨rfl, rfl⟩, trivial⟩⟩
  obtain ⟨hd2, hlt2⟩ := drop_some hz
  have eq : decide ((q : Int) < (a.length : Int)) = true := decide_eq_true (by omega)
  rw [hd2] at l2
  simp only [cntS] at l2
  have hbd : n ≤ 1048576 * 3 := by simp only [innerS] at l2; omega
  cases hf : isFo y.op with
  | false =>
    rw [if_neg (by simp [isF, hf])] at l2
    repeat' first
      | refine Z1 ?_ | refine Z2 ?_ | refine Z3 ?_ | refine Z4 ?_ | refine Z5 ?_ | refine Z6 ?_ | refine Z7 ?_ | refine Z8 ?_ | refine Z9 ?_ | refine Za (fun hc => ?_) (fun hc => ?_) | refine Zb (fun hc => ?_) (fun hc => ?_)
      | refine Zc (sfby_ok _) ?_ | refine Zd ?_ | refine Ze ?_ | refine Zf ?_ | refine Zg ?_ | refine Zh ?_ | refine Zi ?_ | refine Zj ?_ | refine Zk ?_ | refine Zl ?_ | refine Zm ?_ | refine Zn (fun hc => ?_) (fun hc => ?_) | refine Zo ?_
      | refine ok_seq ?_ | refine ok_reg ?_ | refine Zp ?_ | refine Zq ?_ | refine Zr (fun hc => ?_) (fun hc => ?_) | refine ok_block ?_ | refine ok_exit ?_ | refine ok_skip ?_ | refine ok_ret ?_ | refine x_normal_then ?_
      | refine x_exit_here ?_ | refine Zs ?_ | refine Zv ?_ | refine x_ret_then ?_ | refine x_ret_block ?_ | refine x_normal_block ?_ | refine Zt ?_ | refine Zu ?_
    exact ⟨(q + 1, n), ⟨hlt2, by simp only; omega⟩, by (try simp only); omega, low_mk (Nat.le_of_ble_eq_true rfl) ⟨⟨rfl, rfl⟩, ⟨rfl, rfl⟩, ⟨rfl, rfl⟩, ⟨rfl, rfl⟩, ⟨rfl, rfl⟩, ⟨rfl, rfl⟩, ⟨rfl, rfl⟩, ⟨rfl, rfl⟩, ⟨rfl, rfl⟩, trivial⟩ ⟨⟨rfl, rfl⟩, trivial⟩⟩
  | true =>
    by_cases hc : e.call = ⟨#[]⟩
    · have d1 : decide (e.call = ⟨#[]⟩) = true := decide_eq_true hc
      by_cases hlast : q + 1 = a.length
      · have d2 : decide ((q : Int) = (a.length : Int) - 1) = true := decide_eq_true (by omega)
        have d3 : (!decide ((q : Int) = (a.length : Int) - 1)) = false := by rw [d2]; rfl
        rw [if_neg (fun h => h.2 ⟨d1, hlast⟩)] at l2
        repeat' first
          | refine Z1 ?_ | refine Z2 ?_ | refine Z3 ?_ | refine Z4 ?_ | refine Z5 ?_ | refine Z6 ?_ | refine Z7 ?_ | refine Z8 ?_ | refine Z9 ?_ | refine Za (fun hc => ?_) (fun hc => ?_) | refine Zb (fun hc => ?_) (fun hc => ?_)
          | refine Zc (sfby_ok _) ?_ | refine Zd ?_ | refine Ze ?_ | refine Zf ?_ | refine Zg ?_ | refine Zh ?_ | refine Zi ?_ | refine Zj ?_ | refine Zk ?_ | refine Zl ?_ | refine Zm ?_ | refine Zn (fun hc => ?_) (fun hc => ?_)
          | refine Zo ?_ | refine ok_seq ?_ | refine ok_reg ?_ | refine Zp ?_ | refine Zq ?_ | refine Zr (fun hc => ?_) (fun hc => ?_) | refine ok_block ?_ | refine ok_exit ?_ | refine ok_skip ?_ | refine ok_ret ?_ | refine x_normal_then ?_
          | refine x_exit_here ?_ | refine Zs ?_ | refine Zv ?_ | refine x_ret_then ?_ | refine x_ret_block ?_ | refine x_normal_block ?_ | refine Zt ?_ | refine Zu ?_
        exact ⟨(q + 1, n), ⟨hlt2, by simp only; omega⟩, by (try simp only); omega, low_mk (Nat.le_of_ble_eq_true rfl) ⟨⟨rfl, rfl⟩, ⟨rfl, rfl⟩, ⟨rfl, rfl⟩, ⟨rfl, rfl⟩, ⟨rfl, rfl⟩, ⟨rfl, rfl⟩, ⟨rfl, rfl⟩, ⟨rfl, rfl⟩, ⟨rfl, rfl⟩, trivial⟩ ⟨⟨rfl, rfl⟩, trivial⟩⟩
      · have d2 : decide ((q : Int) = (a.length : Int) - 1) = false := decide_eq_false (by omega)
        have d3 : (!decide ((q : Int) = (a.length : Int) - 1)) = true := by rw [d2]; rfl
        rw [if_pos ⟨hf, fun h => hlast h.2⟩] at l2
        repeat' first
          | refine Z1 ?_ | refine Z2 ?_ | refine Z3 ?_ | refine Z4 ?_ | refine Z5 ?_ | refine Z6 ?_ | refine Z7 ?_ | refine Z8 ?_ | refine Z9 ?_ | refine Za (fun hc => ?_) (fun hc => ?_) | refine Zb (fun hc => ?_) (fun hc => ?_)
          | refine Zc (sfby_ok _) ?_ | refine Zd ?_ | refine Ze ?_ | refine Zf ?_ | refine Zg ?_ | refine Zh ?_ | refine Zi ?_ | refine Zj ?_ | refine Zk ?_ | refine Zl ?_ | refine Zm ?_ | refine Zn (fun hc => ?_) (fun hc => ?_)
          | refine Zo ?_ | refine ok_seq ?_ | refine ok_reg ?_ | refine Zp ?_ | refine Zq ?_ | refine Zr (fun hc => ?_) (fun hc => ?_) | refine ok_block ?_ | refine ok_exit ?_ | refine ok_skip ?_ | refine ok_ret ?_ | refine x_normal_then ?_
          | refine x_exit_here ?_ | refine Zs ?_ | refine Zv ?_ | refine x_ret_then ?_ | refine x_ret_block ?_ | refine x_normal_block ?_ | refine Zt ?_ | refine Zu ?_
        exact ⟨(q + 1, n + 1), ⟨hlt2, by simp only; omega⟩, by (try simp only); omega, low_mk (Nat.le_of_ble_eq_true rfl) ⟨⟨rfl, rfl⟩, ⟨rfl, rfl⟩, ⟨rfl, rfl⟩, ⟨rfl, rfl⟩, ⟨rfl, rfl⟩, ⟨rfl, rfl⟩, ⟨rfl, rfl⟩, ⟨rfl, rfl⟩, ⟨rfl, rfl⟩, trivial⟩ ⟨⟨rfl, rfl⟩, trivial⟩⟩
    · have d1 : decide (e.call = ⟨#[]⟩) = false := decide_eq_false hc
      rw [if_pos ⟨hf, fun h => hc (of_decide_eq_true h.1)⟩] at l2
      repeat' first
        | refine Z1 ?_ | refine Z2 ?_ | refine Z3 ?_ | refine Z4 ?_ | refine Z5 ?_ | refine Z6 ?_ | refine Z7 ?_ | refine Z8 ?_ | refine Z9 ?_ | refine Za (fun hc => ?_) (fun hc => ?_) | refine Zb (fun hc => ?_) (fun hc => ?_)
        | refine Zc (sfby_ok _) ?_ | refine Zd ?_ | refine Ze ?_ | refine Zf ?_ | refine Zg ?_ | refine Zh ?_ | refine Zi ?_ | refine Zj ?_ | refine Zk ?_ | refine Zl ?_ | refine Zm ?_ | refine Zn (fun hc => ?_) (fun hc => ?_)
        | refine Zo ?_ | refine ok_seq ?_ | refine ok_reg ?_ | refine Zp ?_ | refine Zq ?_ | refine Zr (fun hc => ?_) (fun hc => ?_) | refine ok_block ?_ | refine ok_exit ?_ | refine ok_skip ?_ | refine ok_ret ?_ | refine x_normal_then ?_
        | refine x_exit_here ?_ | refine Zs ?_ | refine Zv ?_ | refine x_ret_then ?_ | refine x_ret_block ?_ | refine x_normal_block ?_ | refine Zt ?_ | refine Zu ?_
      exact ⟨(q + 1, n + 1), ⟨hlt2, by simp only; omega⟩, by (try simp only); omega, low_mk (Nat.le_of_ble_eq_true rfl) ⟨⟨rfl, rfl⟩, ⟨rfl, rfl⟩, ⟨rfl, rfl⟩, ⟨rfl, rfl⟩, ⟨rfl, rfl⟩, ⟨rfl, rfl⟩, ⟨rfl, rfl⟩, ⟨rfl, rfl⟩, ⟨rfl, rfl⟩, trivial⟩ ⟨⟨rfl, rfl⟩, trivial⟩⟩
def fS (l : List Nod) (s : ByteArray) : Int := match fidx l s with | some j => j | none => -1
theorem fidx_mid {s : ByteArray} {x : Nod} (hx : x.name = s) (r : List Nod) : ∀ l : List Nod, fidx l s = none → fidx (l ++ x :: r) s = some l.length
  | [], _ => by simp [fidx, hx]
  | y :: l, h => by
    simp only [fidx] at h
    split at h
    · cases h
    · rename_i hne
      simp only [List.cons_append, fidx, hne, if_false, fidx_mid hx r l (Option.map_eq_none_iff.1 h), Option.map_some, List.length_cons]
theorem sfind_ok (p : List Nod) (n : Nat) (s : ByteArray) (hp : p.length ≤ 1048576) (hn : n ≤ p.length) : PFun X 34 [.agg [.d (.im (p.map eNod))], vi n, vs s] (vi (fS (p.take n) s)) := by
  refine pfun_of Tryd.func34 rfl (by decide) Tryd.ntmps34 Tryd.results34 (by simp) rfl rfl ?_
  repeat' first
    | refine Z1 ?_ | refine Z2 ?_ | refine Z3 ?_ | refine Z4 ?_ | refine Z5 ?_ | refine Z6 ?_ | refine Z7 ?_ | refine Z8 ?_ | refine Z9 ?_ | refine Za (fun hc => ?_) (fun hc => ?_) | refine Zb (fun hc => ?_) (fun hc => ?_) | refine Zd ?_
    | refine Ze ?_ | refine Zf ?_ | refine Zg ?_ | refine Zh ?_ | refine Zi ?_ | refine Zj ?_ | refine Zk ?_ | refine Zl ?_ | refine Zm ?_ | refine Zn (fun hc => ?_) (fun hc => ?_) | refine Zo ?_ | refine ok_seq ?_ | refine ok_reg ?_
    | refine Zp ?_ | refine Zq ?_ | refine Zr (fun hc => ?_) (fun hc => ?_) | refine ok_block ?_ | refine ok_exit ?_ | refine ok_skip ?_ | refine ok_ret ?_ | refine x_normal_then ?_ | refine x_exit_here ?_ | refine Zs ?_ | refine Zv ?_
    | refine x_ret_then ?_ | refine x_ret_block ?_ | refine x_normal_block ?_ | refine Zt ?_ | refine Zu ?_
  refine ok_for (ι := Nat) (fun x => envL [(1, vi n), (2, vs s), (3, .ref 0 0), (7, vi x)]) (fun x => stL [some (.var [.d (.im (p.map eNod))])]) (fun x => x ≤ n ∧ fidx (p.take x) s = none) (fun x => n - x) 0 (⟨Nat.zero_le _, rfl⟩) (weak_mk rfl ⟨.refl _, .refl _, .refl _, .refl _, trivial⟩ ⟨⟨rfl, _, rfl, rfl, fun _ _ _ => .refl _⟩, trivial⟩) (fun _ => Nat.le_refl _) ?_
  rintro i ⟨i1, i2⟩
  by_cases hin : i < n
  · have ei : decide ((i : Int) < (n : Int)) = true := decide_eq_true (by omega)
    obtain ⟨x, hx⟩ : ∃ x, p[i]? = some x := ⟨p[i]'(by omega), List.getElem?_eq_getElem _⟩
    by_cases hs : x.name = s
    · have es : decide (x.name = s) = true := decide_eq_true hs
      have hfi : fS (p.take n) s = i := by
        have h1 : p.take n = p.take i ++ x :: (p.take n).drop (i + 1) := by
          have h2 : (p.take n).drop i = x :: (p.take n).drop (i + 1) := (drop_some (by rw [List.getElem?_take, if_pos hin]; exact hx)).1
          have h3 := List.take_append_drop i (p.take n)
          rw [List.take_take, Nat.min_eq_left (by omega), h2] at h3
          exact h3.symm
        unfold fS
        rw [h1, fidx_mid hs _ _ i2]
        simp; omega
      repeat' first
        | refine Z1 ?_ | refine Z2 ?_ | refine Z3 ?_ | refine Z4 ?_ | refine Z5 ?_ | refine Z6 ?_ | refine Z7 ?_ | refine Z8 ?_ | refine Z9 ?_ | refine Za (fun hc => ?_) (fun hc => ?_) | refine Zb (fun hc => ?_) (fun hc => ?_)
        | refine Zd ?_ | refine Ze ?_ | refine Zf ?_ | refine Zg ?_ | refine Zh ?_ | refine Zi ?_ | refine Zj ?_ | refine Zk ?_ | refine Zl ?_ | refine Zm ?_ | refine Zn (fun hc => ?_) (fun hc => ?_) | refine Zo ?_ | refine ok_seq ?_
        | refine ok_reg ?_ | refine Zp ?_ | refine Zq ?_ | refine Zr (fun hc => ?_) (fun hc => ?_) | refine ok_block ?_ | refine ok_exit ?_ | refine ok_skip ?_ | refine ok_ret ?_ | refine x_normal_then ?_ | refine x_exit_here ?_
        | refine Zs ?_ | refine Zv ?_ | refine x_ret_then ?_ | refine x_ret_block ?_ | refine x_normal_block ?_ | refine Zt ?_ | refine Zu ?_
      exact ret_vi hfi.symm
    · have es : decide (x.name = s) = false := decide_eq_false hs
      repeat' first
        | refine Z1 ?_ | refine Z2 ?_ | refine Z3 ?_ | refine Z4 ?_ | refine Z5 ?_ | refine Z6 ?_ | refine Z7 ?_ | refine Z8 ?_ | refine Z9 ?_ | refine Za (fun hc => ?_) (fun hc => ?_) | refine Zb (fun hc => ?_) (fun hc => ?_)
        | refine Zd ?_ | refine Ze ?_ | refine Zf ?_ | refine Zg ?_ | refine Zh ?_ | refine Zi ?_ | refine Zj ?_ | refine Zk ?_ | refine Zl ?_ | refine Zm ?_ | refine Zn (fun hc => ?_) (fun hc => ?_) | refine Zo ?_ | refine ok_seq ?_
        | refine ok_reg ?_ | refine Zp ?_ | refine Zq ?_ | refine Zr (fun hc => ?_) (fun hc => ?_) | refine ok_block ?_ | refine ok_exit ?_ | refine ok_skip ?_ | refine ok_ret ?_ | refine x_normal_then ?_ | refine x_exit_here ?_
        | refine Zs ?_ | refine Zv ?_ | refine x_ret_then ?_ | refine x_ret_block ?_ | refine x_normal_block ?_ | refine Zt ?_ | refine Zu ?_
      exact ⟨i + 1, ⟨hin, by rw [take_push hx, fidx_push, i2]; simp [hs]⟩, by (try simp only); omega, low_mk (Nat.le_of_ble_eq_true rfl) ⟨⟨rfl, rfl⟩, ⟨rfl, rfl⟩, ⟨rfl, rfl⟩, ⟨rfl, rfl⟩, trivial⟩ ⟨⟨rfl, rfl⟩, trivial⟩⟩
  · have ei : decide ((i : Int) < (n : Int)) = false := decide_eq_false (by omega)
    have : i = n := by omega
    subst this
    repeat' first
      | refine Z1 ?_ | refine Z2 ?_ | refine Z3 ?_ | refine Z4 ?_ | refine Z5 ?_ | refine Z6 ?_ | refine Z7 ?_ | refine Z8 ?_ | refine Z9 ?_ | refine Za (fun hc => ?_) (fun hc => ?_) | refine Zb (fun hc => ?_) (fun hc => ?_) | refine Zd ?_
      | refine Ze ?_ | refine Zf ?_ | refine Zg ?_ | refine Zh ?_ | refine Zi ?_ | refine Zj ?_ | refine Zk ?_ | refine Zl ?_ | refine Zm ?_ | refine Zn (fun hc => ?_) (fun hc => ?_) | refine Zo ?_ | refine ok_seq ?_ | refine ok_reg ?_
      | refine Zp ?_ | refine Zq ?_ | refine Zr (fun hc => ?_) (fun hc => ?_) | refine ok_block ?_ | refine ok_exit ?_ | refine ok_skip ?_ | refine ok_ret ?_ | refine x_normal_then ?_ | refine x_exit_here ?_ | refine Zs ?_ | refine Zv ?_
      | refine x_ret_then ?_ | refine x_ret_block ?_ | refine x_normal_block ?_ | refine Zt ?_ | refine Zu ?_
    exact ret_vi (by simp [fS, i2])
def eqWS (pre : List Nod) (ws : List Int) (w : Int) (e : Eqn) : Int := min (w + (1 + 2 * (innerS e : Int)) + (lens (codesS e) : Int) + cW pre ws e.call) 20001
def foldW (pre : List Nod) (ws : List Int) : Int → List Eqn → Int
  | w, [] => w
  | w, e :: l => foldW pre ws (eqWS pre ws w e) l
def wsGoS : List Nod → List Int → List Nod → List Int
  | _, ws, [] => ws
  | pre, ws, x :: r => wsGoS (pre ++ [x]) (ws ++ [foldW pre ws 1 x.eqs]) r
def wsS (p : List Nod) : List Int := wsGoS [] [] p
set_option maxHeartbeats 4000000 in
theorem sweights_ok (p : List Nod) (hw : wL wNod p ≤ 1048576) : PFun X 20 [.agg [.d (.im (p.map eNod))]] (.d (.im ((wsS p).map eInt))) := by
  have hpl : p.length ≤ 1048576 := by simp only [wL] at hw; omega
  have hnt : (!true) = false := rfl
  have hnf : (!false) = true := rfl
  refine pfun_of Tryd.func20 rfl (by decide) Tryd.ntmps20 Tryd.results20 (by simp) rfl rfl ?_
  repeat' first
    | refine Z1 ?_ | refine Z2 ?_ | refine Z3 ?_ | refine Z5 ?_ | refine Z6 ?_ | refine Z7 ?_ | refine Z8 ?_ | refine Z9 ?_ | refine Za (fun hc => ?_) (fun hc => ?_) | refine Zb (fun hc => ?_) (fun hc => ?_)
    | refine op_bslice rfl rfl rfl rfl rfl rfl rfl ?_ | refine Zd ?_ | refine Ze ?_ | refine Zf ?_ | refine Zg ?_ | refine Zh ?_ | refine Zi ?_ | refine Zj ?_ | refine Zk ?_ | refine Zl ?_ | refine Zm ?_
    | refine Zn (fun hc => ?_) (fun hc => ?_) | refine Zo ?_ | refine ok_seq ?_ | refine ok_reg ?_ | refine Zp ?_ | refine Zq ?_ | refine Zr (fun hc => ?_) (fun hc => ?_) | refine ok_block ?_ | refine ok_exit ?_ | refine ok_skip ?_
    | refine ok_ret ?_ | refine x_normal_then ?_ | refine x_exit_here ?_ | refine Zs ?_ | refine Zv ?_ | refine x_ret_then ?_ | refine x_ret_block ?_ | refine x_normal_block ?_ | refine Zt ?_ | refine Zu ?_
  refine ok_forR (ι := Nat × List Int) (fun x_ => envL [(1, .ref 0 0), (3, .sl 1 2 0 x_.2.length), (13, .d (.im (p.map eNod))), (14, vi p.length), (15, vi x_.1)]) (fun x_ => stL [some (.var [.d (.im (p.map eNod))]), some (.row 2 3 1 (im2 eInt x_.2)), none]) (fun x_ => x_.1 ≤ p.length ∧ x_.2.length = x_.1 ∧ wB x_.2 ∧ wsGoS (p.take x_.1) x_.2 (p.drop x_.1) = wsS p) (fun x_ => p.length - x_.1) (0, []) (⟨Nat.zero_le _, rfl, fun x hx => by simp at hx, rfl⟩) Turn.refl (lowR_mk [(2, 1)] rfl rfl rfl ⟨⟨rfl, rfl⟩, ⟨rfl, rfl⟩, ⟨rfl, rfl⟩, ⟨rfl, rfl⟩, ⟨rfl, rfl⟩, trivial⟩ ⟨⟨rfl, rfl⟩, ⟨renO_row rfl (by first | exact im2_ren _ _ _ | rfl), blt_lt rfl, im2_low _ _ _⟩, trivial⟩) ?_
  rintro ⟨k, ws⟩ ⟨i1, i2, i3, i5⟩
  simp only at i1 i2 i3 i5
  rcases hx : p[k]? with _ | x
  · have hle := none_le hx
    have ek : decide ((k : Int) < (p.length : Int)) = false := decide_eq_false (by omega)
    rw [drop_none hx] at i5
    have i5 : ws = wsS p := i5
    subst i5
    repeat' first
      | refine Z1 ?_ | refine Z2 ?_ | refine Z3 ?_ | refine Z4 ?_ | refine Z5 ?_ | refine Z6 ?_ | refine Z7 ?_ | refine Z8 ?_ | refine Z9 ?_ | refine Za (fun hc => ?_) (fun hc => ?_) | refine Zb (fun hc => ?_) (fun hc => ?_) | refine Zd ?_
      | refine Ze ?_ | refine Zf ?_ | refine Zg ?_ | refine Zh ?_ | refine Zi ?_ | refine Zj ?_ | refine Zk ?_ | refine Zl ?_ | refine Zm ?_ | refine Zn (fun hc => ?_) (fun hc => ?_)
      | refine fz_rows (e := eInt) (l := wsS p) rfl 2 rfl rfl rfl ?_ | refine Zo ?_ | refine ok_seq ?_ | refine ok_reg ?_ | refine Zp ?_ | refine Zq ?_ | refine Zr (fun hc => ?_) (fun hc => ?_) | refine ok_block ?_ | refine ok_exit ?_
      | refine ok_skip ?_ | refine ok_ret ?_ | refine x_normal_then ?_ | refine x_exit_here ?_ | refine Zs ?_ | refine Zv ?_ | refine x_ret_then ?_ | refine x_ret_block ?_ | refine x_normal_block ?_ | refine Zt ?_ | refine Zu ?_
    rfl
  obtain ⟨hd, hlt⟩ := drop_some hx
  have ek : decide ((k : Int) < (p.length : Int)) = true := decide_eq_true (by omega)
  have hwx := wL_mem (w := wNod) (List.mem_of_getElem? hx)
  have hwx1 : wNod x ≤ 1048576 := by simp only [wL] at hw; omega
  have hwx2 := hwx1
  simp only [wNod, wL] at hwx2
  rw [hd] at i5
  repeat' first
    | refine Z1 ?_ | refine Z2 ?_ | refine Z3 ?_ | refine Z4 ?_ | refine Z5 ?_ | refine Z6 ?_ | refine Z7 ?_ | refine Z8 ?_ | refine Z9 ?_ | refine Za (fun hc => ?_) (fun hc => ?_) | refine Zb (fun hc => ?_) (fun hc => ?_) | refine Zd ?_
    | refine Ze ?_ | refine Zf ?_ | refine Zg ?_ | refine Zh ?_ | refine Zi ?_ | refine Zj ?_ | refine Zk ?_ | refine Zl ?_ | refine Zm ?_ | refine Zn (fun hc => ?_) (fun hc => ?_) | refine Zo ?_ | refine ok_seq ?_ | refine ok_reg ?_
    | refine Zp ?_ | refine Zq ?_ | refine Zr (fun hc => ?_) (fun hc => ?_) | refine ok_block ?_ | refine ok_exit ?_ | refine ok_skip ?_ | refine ok_ret ?_ | refine x_normal_then ?_ | refine x_exit_here ?_ | refine Zs ?_ | refine Zv ?_
    | refine x_ret_then ?_ | refine x_ret_block ?_ | refine x_normal_block ?_ | refine Zt ?_ | refine Zu ?_
  refine ok_for (ι := Nat × Int) (fun x_ => envL [(1, .ref 0 0), (3, .sl 1 2 0 ws.length), (13, .d (.im (p.map eNod))), (14, vi p.length), (15, vi k), (4, vi k), (5, .ref 3 0), (6, vi x_.2), (21, .d (.im (x.eqs.map eEqn))), (22, vi x.eqs.length), (23, vi x_.1)]) (fun x_ => stL [some (.var [.d (.im (p.map eNod))]), some (.row 2 3 1 (im2 eInt ws)), none, some (.var ((eNod x).map .d))]) (fun x_ => x_.1 ≤ x.eqs.length ∧ 0 ≤ x_.2 ∧ x_.2 ≤ 20001 ∧ foldW (p.take k) ws x_.2 (x.eqs.drop x_.1) = foldW (p.take k) ws 1 x.eqs) (fun x_ => x.eqs.length - x_.1) (0, 1) (⟨Nat.zero_le _, by simp⟩) (weak_mk rfl ⟨.refl _, .refl _, .refl _, .refl _, .refl _, .refl _, .refl _, .refl _, .refl _, .refl _, .refl _, trivial⟩ ⟨⟨rfl, _, rfl, rfl, fun _ _ _ => .refl _⟩, ⟨rfl, _, rfl, rfl, rfl, rfl, rfl⟩, ⟨rfl, _, rfl, rfl, fun _ _ _ => .refl _⟩, trivial⟩) (fun _ => Nat.le_refl _) ?_
  rintro ⟨m, s⟩ ⟨j1, j2, j3, j4⟩
  simp only at j1 j2 j3 j4
  rcases hy : x.eqs[m]? with _ | e
  · have hle := none_le hy
    have em : decide ((m : Int) < (x.eqs.length : Int)) = false := decide_eq_false (by omega)
    rw [drop_none hy] at j4
    have j4 : s = foldW (p.take k) ws 1 x.eqs := j4
    have hwb : wB (ws ++ [s]) := by
      intro y hy
      rcases List.mem_append.1 hy with h | h
      · exact i3 y h
      · simp at h; omega
    have hgo : wsGoS (p.take (k + 1)) (ws ++ [s]) (p.drop (k + 1)) = wsS p := by rw [take_push hx, j4]; exact i5
    repeat' first
      | refine Z1 ?_ | refine Z2 ?_ | refine Z3 ?_ | refine Z4 ?_ | refine Z5 ?_ | refine Z6 ?_ | refine Z7 ?_ | refine Z8 ?_ | refine Z9 ?_ | refine Za (fun hc => ?_) (fun hc => ?_) | refine Zb (fun hc => ?_) (fun hc => ?_)
      | refine Yl (e := eInt) (l := ws) [s] ?_ | refine Zd ?_ | refine Ze ?_ | refine Zf ?_ | refine Zg ?_ | refine Zh ?_ | refine Zi ?_ | refine Zj ?_ | refine Zk ?_ | refine Zl ?_ | refine Zm ?_ | refine Zn (fun hc => ?_) (fun hc => ?_)
      | refine Zo ?_ | refine ok_seq ?_ | refine ok_reg ?_ | refine Zp ?_ | refine Zq ?_ | refine Zr (fun hc => ?_) (fun hc => ?_) | refine ok_block ?_ | refine ok_exit ?_ | refine ok_skip ?_ | refine ok_ret ?_ | refine x_normal_then ?_
      | refine x_exit_here ?_ | refine Zs ?_ | refine Zv ?_ | refine x_ret_then ?_ | refine x_ret_block ?_ | refine x_normal_block ?_ | refine Zt ?_ | refine Zu ?_
    exact ⟨(k + 1, ws ++ [s]), ⟨hlt, by simp [i2], hwb, hgo⟩, by (try simp only); omega, lowR_mk [(2, 5)] rfl rfl rfl ⟨⟨rfl, rfl⟩, ⟨rfl, rfl⟩, ⟨rfl, rfl⟩, ⟨rfl, rfl⟩, ⟨rfl, rfl⟩, trivial⟩ ⟨⟨rfl, rfl⟩, ⟨renO_row rfl (by first | exact im2_ren _ _ _ | rfl), blt_lt rfl, im2_low _ _ _⟩, trivial⟩⟩
  obtain ⟨hd2, hlt2⟩ := drop_some hy
  have em : decide ((m : Int) < (x.eqs.length : Int)) = true := decide_eq_true (by omega)
  have hwe := wL_mem (w := wEqn) (List.mem_of_getElem? hy)
  have hwe1 : wEqn e ≤ 1048576 := by omega
  obtain ⟨hcl, hcn⟩ := codes_le e
  have hil := cntSs_le (decide (e.call = ⟨#[]⟩)) (codesS e)
  have hin : innerS e ≤ 1048576 := by simp only [innerS]; omega
  have hcW := cW_le (pre := p.take k) i3 e.call
  rw [hd2] at j4
  simp only [foldW, eqWS] at j4
  repeat' first
    | refine Z1 ?_ | refine Z2 ?_ | refine Z3 ?_ | refine Z4 ?_ | refine Z5 ?_ | refine Z6 ?_ | refine Z7 ?_ | refine Z8 ?_ | refine Z9 ?_ | refine Za (fun hc => ?_) (fun hc => ?_) | refine Zb (fun hc => ?_) (fun hc => ?_)
    | refine Zc (sinner_ok e hwe1) ?_ | refine Zc (scodes_ok e) ?_ | refine Yg ?_ | refine Zd ?_ | refine Ze ?_ | refine Zf ?_ | refine Zg ?_ | refine Zh ?_ | refine Zi ?_ | refine Zj ?_ | refine Zk ?_ | refine Zl ?_ | refine Zm ?_
    | refine Zn (fun hc => ?_) (fun hc => ?_) | refine Zo ?_ | refine ok_seq ?_ | refine ok_reg ?_ | refine Zp ?_ | refine Zq ?_ | refine Zr (fun hc => ?_) (fun hc => ?_) | refine ok_block ?_ | refine ok_exit ?_ | refine ok_skip ?_
    | refine ok_ret ?_ | refine x_normal_then ?_ | refine x_exit_here ?_ | refine Zs ?_ | refine Zv ?_ | refine x_ret_then ?_ | refine x_ret_block ?_ | refine x_normal_block ?_ | refine Zt ?_ | refine Zu ?_
  refine ok_for (ι := Nat × Int) (fun x_ => envL [(1, .ref 0 0), (3, .sl 1 2 0 ws.length), (13, .d (.im (p.map eNod))), (14, vi p.length), (15, vi k), (4, vi k), (5, .ref 3 0), (6, vi x_.2), (21, .d (.im (x.eqs.map eEqn))), (22, vi x.eqs.length), (23, vi m), (8, .ref 4 0), (34, .d (.im ((codesS e).map eItms))), (35, vi (codesS e).length), (36, vi x_.1)]) (fun x_ => stL [some (.var [.d (.im (p.map eNod))]), some (.row 2 3 1 (im2 eInt ws)), none, some (.var ((eNod x).map .d)), some (.var ((eEqn e).map .d))]) (fun x_ => x_.1 ≤ (codesS e).length ∧ 0 ≤ x_.2 ∧ x_.2 + (lens ((codesS e).drop x_.1) : Int) = s + (1 + 2 * (innerS e : Int)) + (lens (codesS e) : Int)) (fun x_ => (codesS e).length - x_.1) (0, s + (1 + 2 * (innerS e : Int))) (⟨Nat.zero_le _, by simp only; omega, by simp⟩) (weak_mk rfl ⟨.refl _, .refl _, .refl _, .refl _, .refl _, .refl _, .refl _, .refl _, .refl _, .refl _, .refl _, .refl _, .refl _, .refl _, .refl _, trivial⟩ ⟨⟨rfl, _, rfl, rfl, fun _ _ _ => .refl _⟩, ⟨rfl, _, rfl, rfl, rfl, rfl, rfl⟩, ⟨rfl, _, rfl, rfl, fun _ _ _ => .refl _⟩, ⟨rfl, _, rfl, rfl, fun _ _ _ => .refl _⟩, trivial⟩) (fun _ => Nat.le_refl _) ?_
  rintro ⟨q, u⟩ ⟨l1, l2, l3⟩
  simp only at l1 l2 l3
  rcases hz : (codesS e)[q]? with _ | a
  · have hle := none_le hz
    have eq : decide ((q : Int) < ((codesS e).length : Int)) = false := decide_eq_false (by omega)
    rw [drop_none hz] at l3
    simp only [lens] at l3
    have fin : ∀ v, cW (p.take k) ws e.call = v → foldW (p.take k) ws (min (u + v) 20001) (x.eqs.drop (m + 1)) = foldW (p.take k) ws 1 x.eqs := by
      intro v hv
      rw [← j4, hv]
      congr 1
      congr 1
      omega
    by_cases hc : e.call = ⟨#[]⟩
    · have d1 : decide (e.call ≠ ⟨#[]⟩) = false := decide_eq_false (fun h => h hc)
      have hcw : cW (p.take k) ws e.call = 0 := by simp [cW, hc]
      have hfin := fin 0 hcw
      rw [Int.add_zero] at hfin
      by_cases hbig : 20000 < u
      · have d5 : decide (20000 < u) = true := decide_eq_true hbig
        rw [show min u 20001 = 20001 by omega] at hfin
        repeat' first
          | refine Z1 ?_ | refine Z2 ?_ | refine Z3 ?_ | refine Z4 ?_ | refine Z5 ?_ | refine Z6 ?_ | refine Z7 ?_ | refine Z8 ?_ | refine Z9 ?_ | refine Za (fun hc => ?_) (fun hc => ?_) | refine Zb (fun hc => ?_) (fun hc => ?_)
          | refine Zd ?_ | refine Ze ?_ | refine Zf ?_ | refine Zg ?_ | refine Zh ?_ | refine Zi ?_ | refine Zj ?_ | refine Zk ?_ | refine Zl ?_ | refine Zm ?_ | refine Zn (fun hc => ?_) (fun hc => ?_) | refine Zo ?_ | refine ok_seq ?_
          | refine ok_reg ?_ | refine Zp ?_ | refine Zq ?_ | refine Zr (fun hc => ?_) (fun hc => ?_) | refine ok_block ?_ | refine ok_exit ?_ | refine ok_skip ?_ | refine ok_ret ?_ | refine x_normal_then ?_ | refine x_exit_here ?_
          | refine Zs ?_ | refine Zv ?_ | refine x_ret_then ?_ | refine x_ret_block ?_ | refine x_normal_block ?_ | refine Zt ?_ | refine Zu ?_
        exact ⟨(m + 1, 20001), ⟨hlt2, by simp only; omega, by simp only; omega, hfin⟩, by (try simp only); omega, low_mk (Nat.le_of_ble_eq_true rfl) ⟨⟨rfl, rfl⟩, ⟨rfl, rfl⟩, ⟨rfl, rfl⟩, ⟨rfl, rfl⟩, ⟨rfl, rfl⟩, ⟨rfl, rfl⟩, ⟨rfl, rfl⟩, ⟨rfl, rfl⟩, ⟨rfl, rfl⟩, ⟨rfl, rfl⟩, ⟨rfl, rfl⟩, trivial⟩ ⟨⟨rfl, rfl⟩, ⟨rfl, blt_lt rfl, im2_low _ _ _⟩, ⟨rfl, rfl⟩, trivial⟩⟩
      · have d5 : decide (20000 < u) = false := decide_eq_false hbig
        rw [show min u 20001 = u by omega] at hfin
        repeat' first
          | refine Z1 ?_ | refine Z2 ?_ | refine Z3 ?_ | refine Z4 ?_ | refine Z5 ?_ | refine Z6 ?_ | refine Z7 ?_ | refine Z8 ?_ | refine Z9 ?_ | refine Za (fun hc => ?_) (fun hc => ?_) | refine Zb (fun hc => ?_) (fun hc => ?_)
          | refine Zd ?_ | refine Ze ?_ | refine Zf ?_ | refine Zg ?_ | refine Zh ?_ | refine Zi ?_ | refine Zj ?_ | refine Zk ?_ | refine Zl ?_ | refine Zm ?_ | refine Zn (fun hc => ?_) (fun hc => ?_) | refine Zo ?_ | refine ok_seq ?_
          | refine ok_reg ?_ | refine Zp ?_ | refine Zq ?_ | refine Zr (fun hc => ?_) (fun hc => ?_) | refine ok_block ?_ | refine ok_exit ?_ | refine ok_skip ?_ | refine ok_ret ?_ | refine x_normal_then ?_ | refine x_exit_here ?_
          | refine Zs ?_ | refine Zv ?_ | refine x_ret_then ?_ | refine x_ret_block ?_ | refine x_normal_block ?_ | refine Zt ?_ | refine Zu ?_
        exact ⟨(m + 1, u), ⟨hlt2, by simp only; omega, by simp only; omega, hfin⟩, by (try simp only); omega, low_mk (Nat.le_of_ble_eq_true rfl) ⟨⟨rfl, rfl⟩, ⟨rfl, rfl⟩, ⟨rfl, rfl⟩, ⟨rfl, rfl⟩, ⟨rfl, rfl⟩, ⟨rfl, rfl⟩, ⟨rfl, rfl⟩, ⟨rfl, rfl⟩, ⟨rfl, rfl⟩, ⟨rfl, rfl⟩, ⟨rfl, rfl⟩, trivial⟩ ⟨⟨rfl, rfl⟩, ⟨rfl, blt_lt rfl, im2_low _ _ _⟩, ⟨rfl, rfl⟩, trivial⟩⟩
    · have d1 : decide (e.call ≠ ⟨#[]⟩) = true := decide_eq_true hc
      cases hf : fidx (p.take k) e.call with
      | none =>
        have hfs : fS (p.take k) e.call = -1 := by simp [fS, hf]
        have d2 : decide (0 ≤ fS (p.take k) e.call) = false := by rw [hfs]; rfl
        have hcw : cW (p.take k) ws e.call = 0 := by simp [cW, hc, hf]
        have hfin := fin 0 hcw
        rw [Int.add_zero] at hfin
        by_cases hbig : 20000 < u
        · have d5 : decide (20000 < u) = true := decide_eq_true hbig
          rw [show min u 20001 = 20001 by omega] at hfin
          repeat' first
            | refine Z1 ?_ | refine Z2 ?_ | refine Z3 ?_ | refine Z4 ?_ | refine Z5 ?_ | refine Z6 ?_ | refine Z7 ?_ | refine Z8 ?_ | refine Z9 ?_ | refine Za (fun hc => ?_) (fun hc => ?_) | refine Zb (fun hc => ?_) (fun hc => ?_)
            | refine Zc (sfind_ok p k e.call hpl i1) ?_ | refine Zd ?_ | refine Ze ?_ | refine Zf ?_ | refine Zg ?_ | refine Zh ?_ | refine Zi ?_ | refine Zj ?_ | refine Zk ?_ | refine Zl ?_ | refine Zm ?_
            | refine Zn (fun hc => ?_) (fun hc => ?_) | refine Zo ?_ | refine ok_seq ?_ | refine ok_reg ?_ | refine Zp ?_ | refine Zq ?_ | refine Zr (fun hc => ?_) (fun hc => ?_) | refine ok_block ?_ | refine ok_exit ?_ | refine ok_skip ?_
            | refine ok_ret ?_ | refine x_normal_then ?_ | refine x_exit_here ?_ | refine Zs ?_ | refine Zv ?_ | refine x_ret_then ?_ | refine x_ret_block ?_ | refine x_normal_block ?_ | refine Zt ?_ | refine Zu ?_
          exact ⟨(m + 1, 20001), ⟨hlt2, by simp only; omega, by simp only; omega, hfin⟩, by (try simp only); omega, low_mk (Nat.le_of_ble_eq_true rfl) ⟨⟨rfl, rfl⟩, ⟨rfl, rfl⟩, ⟨rfl, rfl⟩, ⟨rfl, rfl⟩, ⟨rfl, rfl⟩, ⟨rfl, rfl⟩, ⟨rfl, rfl⟩, ⟨rfl, rfl⟩, ⟨rfl, rfl⟩, ⟨rfl, rfl⟩, ⟨rfl, rfl⟩, trivial⟩ ⟨⟨rfl, rfl⟩, ⟨rfl, blt_lt rfl, im2_low _ _ _⟩, ⟨rfl, rfl⟩, trivial⟩⟩
        · have d5 : decide (20000 < u) = false := decide_eq_false hbig
          rw [show min u 20001 = u by omega] at hfin
          repeat' first
            | refine Z1 ?_ | refine Z2 ?_ | refine Z3 ?_ | refine Z4 ?_ | refine Z5 ?_ | refine Z6 ?_ | refine Z7 ?_ | refine Z8 ?_ | refine Z9 ?_ | refine Za (fun hc => ?_) (fun hc => ?_) | refine Zb (fun hc => ?_) (fun hc => ?_)
            | refine Zc (sfind_ok p k e.call hpl i1) ?_ | refine Zd ?_ | refine Ze ?_ | refine Zf ?_ | refine Zg ?_ | refine Zh ?_ | refine Zi ?_ | refine Zj ?_ | refine Zk ?_ | refine Zl ?_ | refine Zm ?_
            | refine Zn (fun hc => ?_) (fun hc => ?_) | refine Zo ?_ | refine ok_seq ?_ | refine ok_reg ?_ | refine Zp ?_ | refine Zq ?_ | refine Zr (fun hc => ?_) (fun hc => ?_) | refine ok_block ?_ | refine ok_exit ?_ | refine ok_skip ?_
            | refine ok_ret ?_ | refine x_normal_then ?_ | refine x_exit_here ?_ | refine Zs ?_ | refine Zv ?_ | refine x_ret_then ?_ | refine x_ret_block ?_ | refine x_normal_block ?_ | refine Zt ?_ | refine Zu ?_
          exact ⟨(m + 1, u), ⟨hlt2, by simp only; omega, by simp only; omega, hfin⟩, by (try simp only); omega, low_mk (Nat.le_of_ble_eq_true rfl) ⟨⟨rfl, rfl⟩, ⟨rfl, rfl⟩, ⟨rfl, rfl⟩, ⟨rfl, rfl⟩, ⟨rfl, rfl⟩, ⟨rfl, rfl⟩, ⟨rfl, rfl⟩, ⟨rfl, rfl⟩, ⟨rfl, rfl⟩, ⟨rfl, rfl⟩, ⟨rfl, rfl⟩, trivial⟩ ⟨⟨rfl, rfl⟩, ⟨rfl, blt_lt rfl, im2_low _ _ _⟩, ⟨rfl, rfl⟩, trivial⟩⟩
      | some j =>
        have hfs : fS (p.take k) e.call = j := by simp [fS, hf]
        have d2 : decide (0 ≤ fS (p.take k) e.call) = true := by rw [hfs]; exact decide_eq_true (Int.natCast_nonneg j)
        have hj := fidx_lt hf
        have hjk : j < ws.length := by simp at hj; omega
        obtain ⟨v, hv⟩ : ∃ v, ws[j]? = some v := ⟨ws[j]'hjk, List.getElem?_eq_getElem _⟩
        have hvb := i3 v (List.mem_of_getElem? hv)
        have hcw : cW (p.take k) ws e.call = v := by simp [cW, hc, hf, hv]
        have hfin := fin v hcw
        by_cases hbig : 20000 < u + v
        · have d5 : decide (20000 < u + v) = true := decide_eq_true hbig
          rw [show min (u + v) 20001 = 20001 by omega] at hfin
          repeat' first
            | refine Z1 ?_ | refine Z2 ?_ | refine Z3 ?_ | refine Z4 ?_ | refine Z5 ?_ | refine Z6 ?_ | refine Z7 ?_ | refine Z8 ?_ | refine Z9 ?_ | refine Za (fun hc => ?_) (fun hc => ?_) | refine Zb (fun hc => ?_) (fun hc => ?_)
            | refine Zc (sfind_ok p k e.call hpl i1) ?_ | refine Yf j hfs hjk ?_ | refine Ye (im2_get hv) ?_ | refine Zd ?_ | refine Ze ?_ | refine Zf ?_ | refine Zg ?_ | refine Zh ?_ | refine Zi ?_ | refine Zj ?_ | refine Zk ?_
            | refine Zl ?_ | refine Zm ?_ | refine Zn (fun hc => ?_) (fun hc => ?_) | refine Zo ?_ | refine ok_seq ?_ | refine ok_reg ?_ | refine Zp ?_ | refine Zq ?_ | refine Zr (fun hc => ?_) (fun hc => ?_) | refine ok_block ?_
            | refine ok_exit ?_ | refine ok_skip ?_ | refine ok_ret ?_ | refine x_normal_then ?_ | refine x_exit_here ?_ | refine Zs ?_ | refine Zv ?_ | refine x_ret_then ?_ | refine x_ret_block ?_ | refine x_normal_block ?_ | refine Zt ?_
            | refine Zu ?_
          exact ⟨(m + 1, 20001), ⟨hlt2, by simp only; omega, by simp only; omega, hfin⟩, by (try simp only); omega, low_mk (Nat.le_of_ble_eq_true rfl) ⟨⟨rfl, rfl⟩, ⟨rfl, rfl⟩, ⟨rfl, rfl⟩, ⟨rfl, rfl⟩, ⟨rfl, rfl⟩, ⟨rfl, rfl⟩, ⟨rfl, rfl⟩, ⟨rfl, rfl⟩, ⟨rfl, rfl⟩, ⟨rfl, rfl⟩, ⟨rfl, rfl⟩, trivial⟩ ⟨⟨rfl, rfl⟩, ⟨rfl, blt_lt rfl, im2_low _ _ _⟩, ⟨rfl, rfl⟩, trivial⟩⟩
        · have d5 : decide (20000 < u + v) = false := decide_eq_false hbig
          rw [show min (u + v) 20001 = u + v by omega] at hfin
          repeat' first
            | refine Z1 ?_ | refine Z2 ?_ | refine Z3 ?_ | refine Z4 ?_ | refine Z5 ?_ | refine Z6 ?_ | refine Z7 ?_ | refine Z8 ?_ | refine Z9 ?_ | refine Za (fun hc => ?_) (fun hc => ?_) | refine Zb (fun hc => ?_) (fun hc => ?_)
            | refine Zc (sfind_ok p k e.call hpl i1) ?_ | refine Yf j hfs hjk ?_ | refine Ye (im2_get hv) ?_ | refine Zd ?_ | refine Ze ?_ | refine Zf ?_ | refine Zg ?_ | refine Zh ?_ | refine Zi ?_ | refine Zj ?_ | refine Zk ?_
            | refine Zl ?_ | refine Zm ?_ | refine Zn (fun hc => ?_) (fun hc => ?_) | refine Zo ?_ | refine ok_seq ?_ | refine ok_reg ?_ | refine Zp ?_ | refine Zq ?_ | refine Zr (fun hc => ?_) (fun hc => ?_) | refine ok_block ?_
            | refine ok_exit ?_ | refine ok_skip ?_ | refine ok_ret ?_ | refine x_normal_then ?_ | refine x_exit_here ?_ | refine Zs ?_ | refine Zv ?_ | refine x_ret_then ?_ | refine x_ret_block ?_ | refine x_normal_block ?_ | refine Zt ?_
            | refine Zu ?_
          exact ⟨(m + 1, u + v), ⟨hlt2, by simp only; omega, by simp only; omega, hfin⟩, by (try simp only); omega, low_mk (Nat.le_of_ble_eq_true rfl) ⟨⟨rfl, rfl⟩, ⟨rfl, rfl⟩, ⟨rfl, rfl⟩, ⟨rfl, rfl⟩, ⟨rfl, rfl⟩, ⟨rfl, rfl⟩, ⟨rfl, rfl⟩, ⟨rfl, rfl⟩, ⟨rfl, rfl⟩, ⟨rfl, rfl⟩, ⟨rfl, rfl⟩, trivial⟩ ⟨⟨rfl, rfl⟩, ⟨rfl, blt_lt rfl, im2_low _ _ _⟩, ⟨rfl, rfl⟩, trivial⟩⟩
  obtain ⟨hd3, hlt3⟩ := drop_some hz
  have hal := lens_mem (List.mem_of_getElem? hz)
  have eq : decide ((q : Int) < ((codesS e).length : Int)) = true := decide_eq_true (by omega)
  rw [hd3] at l3
  simp only [lens] at l3
  repeat' first
    | refine Z1 ?_ | refine Z2 ?_ | refine Z3 ?_ | refine Z4 ?_ | refine Z5 ?_ | refine Z6 ?_ | refine Z7 ?_ | refine Z8 ?_ | refine Z9 ?_ | refine Za (fun hc => ?_) (fun hc => ?_) | refine Zb (fun hc => ?_) (fun hc => ?_) | refine Zd ?_
    | refine Ze ?_ | refine Zf ?_ | refine Zg ?_ | refine Zh ?_ | refine Zi ?_ | refine Zj ?_ | refine Zk ?_ | refine Zl ?_ | refine Zm ?_ | refine Zn (fun hc => ?_) (fun hc => ?_) | refine Zo ?_ | refine ok_seq ?_ | refine ok_reg ?_
    | refine Zp ?_ | refine Zq ?_ | refine Zr (fun hc => ?_) (fun hc => ?_) | refine ok_block ?_ | refine ok_exit ?_ | refine ok_skip ?_ | refine ok_ret ?_ | refine x_normal_then ?_ | refine x_exit_here ?_ | refine Zs ?_ | refine Zv ?_
    | refine x_ret_then ?_ | refine x_ret_block ?_ | refine x_normal_block ?_ | refine Zt ?_ | refine Zu ?_
  exact ⟨(q + 1, u + (a.length : Int)), ⟨hlt3, by simp only; omega, by simp only; omega⟩, by (try simp only); omega, low_mk (Nat.le_of_ble_eq_true rfl) ⟨⟨rfl, rfl⟩, ⟨rfl, rfl⟩, ⟨rfl, rfl⟩, ⟨rfl, rfl⟩, ⟨rfl, rfl⟩, ⟨rfl, rfl⟩, ⟨rfl, rfl⟩, ⟨rfl, rfl⟩, ⟨rfl, rfl⟩, ⟨rfl, rfl⟩, ⟨rfl, rfl⟩, ⟨rfl, rfl⟩, ⟨rfl, rfl⟩, ⟨rfl, rfl⟩, ⟨rfl, rfl⟩, trivial⟩ ⟨⟨rfl, rfl⟩, ⟨rfl, blt_lt rfl, im2_low _ _ _⟩, ⟨rfl, rfl⟩, ⟨rfl, rfl⟩, trivial⟩⟩
end Go.Pm
