/- Weights: the small functions of both sides. -/
import Derived.Test.YtghgkmifoiokjaaDoorIm5
import Derived.Test.YtghgkmifoiokjaaDoorSp4
set_option linter.unusedVariables false
set_option linter.unusedSimpArgs false
namespace Go.Pm
attribute [local irreducible] AR Ok inBlock andThen endQ aoper
set_option maxHeartbeats 1000000
open Go.Proofs
def isFo (op : Int) : Bool := decide (op = 21) || decide (op = 22)
def isF (x : Itm) : Bool := isFo x.op
def cntB (L : Nat) : Nat → List Itm → Nat
  | _, [] => 0
  | k, x :: l => (if isF x = true ∧ k + 1 ≠ L then 1 else 0) + cntB L (k + 1) l
def cntA : List Itm → Nat
  | [] => 0
  | x :: l => (if isF x = true then 1 else 0) + cntA l
def cntAs : List (List Itm) → Nat
  | [] => 0
  | a :: l => cntA a + cntAs l
def innerI (e : Eqn) : Nat := cntB e.code.length 0 e.code + cntAs e.args
theorem cntB_le (L : Nat) : ∀ (k : Nat) (l : List Itm), cntB L k l ≤ l.length
  | _, [] => Nat.le_refl _
  | k, x :: l => by have := cntB_le L (k + 1) l; simp only [cntB, List.length_cons]; split <;> omega
theorem cntA_le : ∀ l : List Itm, cntA l ≤ l.length
  | [] => Nat.le_refl _
  | x :: l => by have := cntA_le l; simp only [cntA, List.length_cons]; split <;> omega
def lens : List (List Itm) → Nat
  | [] => 0
  | a :: l => a.length + lens l
theorem cntAs_le : ∀ l : List (List Itm), cntAs l ≤ lens l
  | [] => Nat.le_refl _
  | x :: l => by have := cntAs_le l; have := cntA_le x; simp only [cntAs, lens]; omega
theorem lens_le : ∀ l : List (List Itm), lens l ≤ wL (wL wItm) l
  | [] => by simp [lens, wL]
  | x :: l => by have := lens_le l; simp only [lens, wL, List.length_cons, List.map_cons, List.sum_cons] at *; omega
theorem isf_t {x : Itm} (h : isF x = true) : x.op = 21 ∨ x.op = 22 := by simpa [isF, isFo] using h
theorem isf_f {x : Itm} (h : isF x = false) : x.op ≠ 21 ∧ x.op ≠ 22 := by simpa [isF, isFo] using h
theorem inner_ok (e : Eqn) (hw : wEqn e ≤ 1048576) : PFun X 35 [.agg ((eEqn e).map .d)] (vi (innerI e)) := by
  have hle := lens_le e.args
  have hcl := cntB_le e.code.length 0 e.code
  have hca := cntAs_le e.args
  simp only [wEqn, wL] at hw hle
  refine pfun_of Tryd.func35 rfl (by decide) Tryd.ntmps35 Tryd.results35 (by simp) rfl rfl ?_
  repeat' first
    | refine Z1 ?_ | refine Z2 ?_ | refine Z3 ?_ | refine Z4 ?_ | refine Z5 ?_ | refine Z6 ?_ | refine Z7 ?_ | refine Z8 ?_ | refine Z9 ?_ | refine Za (fun hc => ?_) (fun hc => ?_) | refine Zb (fun hc => ?_) (fun hc => ?_) | refine Zd ?_
    | refine Ze ?_ | refine Zf ?_ | refine Zg ?_ | refine Zh ?_ | refine Zi ?_ | refine Zj ?_ | refine Zk ?_ | refine Zl ?_ | refine Zm ?_ | refine Zn (fun hc => ?_) (fun hc => ?_) | refine Zo ?_ | refine ok_seq ?_ | refine ok_reg ?_
    | refine Zp ?_ | refine Zq ?_ | refine Zr (fun hc => ?_) (fun hc => ?_) | refine ok_block ?_ | refine ok_exit ?_ | refine ok_skip ?_ | refine ok_ret ?_ | refine x_normal_then ?_ | refine x_exit_here ?_ | refine Zs ?_ | refine Zv ?_
    | refine x_ret_then ?_ | refine x_ret_block ?_ | refine x_normal_block ?_ | refine Zt ?_ | refine Zu ?_
  refine ok_for (ι := Nat × Nat) (fun x => envL [(1, .ref 0 0), (3, vi x.2), (11, .d (.im (e.code.map eItm))), (12, vi e.code.length), (13, vi x.1)]) (fun x => stL [some (.var ((eEqn e).map .d))]) (fun x => x.1 ≤ e.code.length ∧ x.2 + cntB e.code.length x.1 (e.code.drop x.1) = cntB e.code.length 0 e.code) (fun x => e.code.length - x.1) (0, 0) (⟨Nat.zero_le _, Nat.zero_add _⟩) (weak_mk rfl ⟨.refl _, .refl _, .refl _, .refl _, .refl _, trivial⟩ ⟨⟨rfl, _, rfl, rfl, fun _ _ _ => .refl _⟩, trivial⟩) (fun _ => Nat.le_refl _) ?_
  rintro ⟨k, n⟩ ⟨i1, i2⟩
  simp only at i1 i2
  rcases hx : e.code[k]? with _ | x
  · have hlk := none_le hx
    have ek : decide ((k : Int) < (e.code.length : Int)) = false := decide_eq_false (by omega)
    rw [drop_none hx] at i2
    simp only [cntB, Nat.add_zero] at i2
    repeat' first
      | refine Z1 ?_ | refine Z2 ?_ | refine Z3 ?_ | refine Z4 ?_ | refine Z5 ?_ | refine Z6 ?_ | refine Z7 ?_ | refine Z8 ?_ | refine Z9 ?_ | refine Za (fun hc => ?_) (fun hc => ?_) | refine Zb (fun hc => ?_) (fun hc => ?_) | refine Zd ?_
      | refine Ze ?_ | refine Zf ?_ | refine Zg ?_ | refine Zh ?_ | refine Zi ?_ | refine Zj ?_ | refine Zk ?_ | refine Zl ?_ | refine Zm ?_ | refine Zn (fun hc => ?_) (fun hc => ?_) | refine Zo ?_ | refine ok_seq ?_ | refine ok_reg ?_
      | refine Zp ?_ | refine Zq ?_ | refine Zr (fun hc => ?_) (fun hc => ?_) | refine ok_block ?_ | refine ok_exit ?_ | refine ok_skip ?_ | refine ok_ret ?_ | refine x_normal_then ?_ | refine x_exit_here ?_ | refine Zs ?_ | refine Zv ?_
      | refine x_ret_then ?_ | refine x_ret_block ?_ | refine x_normal_block ?_ | refine Zt ?_ | refine Zu ?_
    refine ok_for (ι := Nat × Nat) (fun x => envL [(1, .ref 0 0), (3, vi x.2), (38, .d (.im (e.args.map eItms))), (39, vi e.args.length), (40, vi x.1)]) (fun x => stL [some (.var ((eEqn e).map .d))]) (fun x => x.1 ≤ e.args.length ∧ x.2 + cntAs (e.args.drop x.1) = innerI e) (fun x => e.args.length - x.1) (0, n) (⟨Nat.zero_le _, by simp only [List.drop_zero, innerI]; omega⟩) (weak_mk rfl ⟨.refl _, .refl _, .refl _, .refl _, .refl _, trivial⟩ ⟨⟨rfl, _, rfl, rfl, fun _ _ _ => .refl _⟩, trivial⟩) (fun _ => Nat.le_refl _) ?_
    rintro ⟨m, n⟩ ⟨j1, j2⟩
    simp only at j1 j2
    rcases hy : e.args[m]? with _ | a
    · have hlm := none_le hy
      have em : decide ((m : Int) < (e.args.length : Int)) = false := decide_eq_false (by omega)
      rw [drop_none hy] at j2
      repeat' first
        | refine Z1 ?_ | refine Z2 ?_ | refine Z3 ?_ | refine Z4 ?_ | refine Z5 ?_ | refine Z6 ?_ | refine Z7 ?_ | refine Z8 ?_ | refine Z9 ?_ | refine Za (fun hc => ?_) (fun hc => ?_) | refine Zb (fun hc => ?_) (fun hc => ?_)
        | refine Zd ?_ | refine Ze ?_ | refine Zf ?_ | refine Zg ?_ | refine Zh ?_ | refine Zi ?_ | refine Zj ?_ | refine Zk ?_ | refine Zl ?_ | refine Zm ?_ | refine Zn (fun hc => ?_) (fun hc => ?_) | refine Zo ?_ | refine ok_seq ?_
        | refine ok_reg ?_ | refine Zp ?_ | refine Zq ?_ | refine Zr (fun hc => ?_) (fun hc => ?_) | refine ok_block ?_ | refine ok_exit ?_ | refine ok_skip ?_ | refine ok_ret ?_ | refine x_normal_then ?_ | refine x_exit_here ?_
        | refine Zs ?_ | refine Zv ?_ | refine x_ret_then ?_ | refine x_ret_block ?_ | refine x_normal_block ?_ | refine Zt ?_ | refine Zu ?_
      exact ret_vi (by simp only [cntAs] at j2; omega)
    obtain ⟨hd, hlt⟩ := drop_some hy
    have hwa := wL_mem (w := wL wItm) (List.mem_of_getElem? hy)
    have hal : a.length ≤ 1048576 := by simp only [wL] at hwa hw; omega
    have em : decide ((m : Int) < (e.args.length : Int)) = true := decide_eq_true (by omega)
    rw [hd] at j2
    simp only [cntAs] at j2
    repeat' first
      | refine Z1 ?_ | refine Z2 ?_ | refine Z3 ?_ | refine Z4 ?_ | refine Z5 ?_ | refine Z6 ?_ | refine Z7 ?_ | refine Z8 ?_ | refine Z9 ?_ | refine Za (fun hc => ?_) (fun hc => ?_) | refine Zb (fun hc => ?_) (fun hc => ?_) | refine Zd ?_
      | refine Ze ?_ | refine Zf ?_ | refine Zg ?_ | refine Zh ?_ | refine Zi ?_ | refine Zj ?_ | refine Zk ?_ | refine Zl ?_ | refine Zm ?_ | refine Zn (fun hc => ?_) (fun hc => ?_) | refine Zo ?_ | refine ok_seq ?_ | refine ok_reg ?_
      | refine Zp ?_ | refine Zq ?_ | refine Zr (fun hc => ?_) (fun hc => ?_) | refine ok_block ?_ | refine ok_exit ?_ | refine ok_skip ?_ | refine ok_ret ?_ | refine x_normal_then ?_ | refine x_exit_here ?_ | refine Zs ?_ | refine Zv ?_
      | refine x_ret_then ?_ | refine x_ret_block ?_ | refine x_normal_block ?_ | refine Zt ?_ | refine Zu ?_
    refine ok_for (ι := Nat × Nat) (fun x => envL [(1, .ref 0 0), (3, vi x.2), (38, .d (.im (e.args.map eItms))), (39, vi e.args.length), (40, vi m), (44, .d (.im (a.map eItm))), (45, vi a.length), (46, vi x.1)]) (fun x => stL [some (.var ((eEqn e).map .d))]) (fun x => x.1 ≤ a.length ∧ x.2 + cntA (a.drop x.1) + cntAs (e.args.drop (m + 1)) = innerI e) (fun x => a.length - x.1) (0, n) (⟨Nat.zero_le _, by simp only [List.drop_zero]; omega⟩) (weak_mk rfl ⟨.refl _, .refl _, .refl _, .refl _, .refl _, .refl _, .refl _, .refl _, trivial⟩ ⟨⟨rfl, _, rfl, rfl, fun _ _ _ => .refl _⟩, trivial⟩) (fun _ => Nat.le_refl _) ?_
    rintro ⟨q, n⟩ ⟨l1, l2⟩
    simp only at l1 l2
    rcases hz : a[q]? with _ | y
    · have hlq := none_le hz
      have eq : decide ((q : Int) < (a.length : Int)) = false := decide_eq_false (by omega)
      rw [drop_none hz] at l2
      simp only [cntA] at l2
      repeat' first
        | refine Z1 ?_ | refine Z2 ?_ | refine Z3 ?_ | refine Z4 ?_ | refine Z5 ?_ | refine Z6 ?_ | refine Z7 ?_ | refine Z8 ?_ | refine Z9 ?_ | refine Za (fun hc => ?_) (fun hc => ?_) | refine Zb (fun hc => ?_) (fun hc => ?_)
        | refine Zd ?_ | refine Ze ?_ | refine Zf ?_ | refine Zg ?_ | refine Zh ?_ | refine Zi ?_ | refine Zj ?_ | refine Zk ?_ | refine Zl ?_ | refine Zm ?_ | refine Zn (fun hc => ?_) (fun hc => ?_) | refine Zo ?_ | refine ok_seq ?_
        | refine ok_reg ?_ | refine Zp ?_ | refine Zq ?_ | refine Zr (fun hc => ?_) (fun hc => ?_) | refine ok_block ?_ | refine ok_exit ?_ | refine ok_skip ?_ | refine ok_ret ?_ | refine x_normal_then ?_ | refine x_exit_here ?_
        | refine Zs ?_ | refine Zv ?_ | refine x_ret_then ?_ | refine x_ret_block ?_ | refine x_normal_block ?_ | refine Zt ?_ | refine Zu ?_
      exact ⟨(m + 1, n), ⟨hlt, by simp only; omega⟩, by (try simp only); omega, low_mk (Nat.le_of_ble_eq_true rfl) ⟨⟨rfl, rfl⟩, ⟨rfl, rfl⟩, ⟨rfl, rfl⟩, ⟨rfl, rfl⟩, ⟨rfl, rfl⟩, trivial⟩ ⟨⟨rfl, rfl⟩, trivial⟩⟩
    obtain ⟨hd2, hlt2⟩ := drop_some hz
    have eq : decide ((q : Int) < (a.length : Int)) = true := decide_eq_true (by omega)
    rw [hd2] at l2
    simp only [cntA] at l2
    have hbd : n ≤ 1048576 * 3 := by simp only [innerI] at l2; omega
    cases hf : isF y with
    | true =>
      rw [hf, if_pos rfl] at l2
      rcases isf_t hf with ho | ho
      · have d1 : decide (y.op = 21) = true := decide_eq_true ho
        repeat' first
          | refine Z1 ?_ | refine Z2 ?_ | refine Z3 ?_ | refine Z4 ?_ | refine Z5 ?_ | refine Z6 ?_ | refine Z7 ?_ | refine Z8 ?_ | refine Z9 ?_ | refine Za (fun hc => ?_) (fun hc => ?_) | refine Zb (fun hc => ?_) (fun hc => ?_)
          | refine Zd ?_ | refine Ze ?_ | refine Zf ?_ | refine Zg ?_ | refine Zh ?_ | refine Zi ?_ | refine Zj ?_ | refine Zk ?_ | refine Zl ?_ | refine Zm ?_ | refine Zn (fun hc => ?_) (fun hc => ?_) | refine Zo ?_ | refine ok_seq ?_
          | refine ok_reg ?_ | refine Zp ?_ | refine Zq ?_ | refine Zr (fun hc => ?_) (fun hc => ?_) | refine ok_block ?_ | refine ok_exit ?_ | refine ok_skip ?_ | refine ok_ret ?_ | refine x_normal_then ?_ | refine x_exit_here ?_
          | refine Zs ?_ | refine Zv ?_ | refine x_ret_then ?_ | refine x_ret_block ?_ | refine x_normal_block ?_ | refine Zt ?_ | refine Zu ?_
        exact ⟨(q + 1, n + 1), ⟨hlt2, by simp only; omega⟩, by (try simp only); omega, low_mk (Nat.le_of_ble_eq_true rfl) ⟨⟨rfl, rfl⟩, ⟨rfl, rfl⟩, ⟨rfl, rfl⟩, ⟨rfl, rfl⟩, ⟨rfl, rfl⟩, ⟨rfl, rfl⟩, ⟨rfl, rfl⟩, ⟨rfl, rfl⟩, trivial⟩ ⟨⟨rfl, rfl⟩, trivial⟩⟩
      · have d1 : decide (y.op = 21) = false := decide_eq_false (by omega)
        have d2 : decide (y.op = 22) = true := decide_eq_true ho
        repeat' first
          | refine Z1 ?_ | refine Z2 ?_ | refine Z3 ?_ | refine Z4 ?_ | refine Z5 ?_ | refine Z6 ?_ | refine Z7 ?_ | refine Z8 ?_ | refine Z9 ?_ | refine Za (fun hc => ?_) (fun hc => ?_) | refine Zb (fun hc => ?_) (fun hc => ?_)
          | refine Zd ?_ | refine Ze ?_ | refine Zf ?_ | refine Zg ?_ | refine Zh ?_ | refine Zi ?_ | refine Zj ?_ | refine Zk ?_ | refine Zl ?_ | refine Zm ?_ | refine Zn (fun hc => ?_) (fun hc => ?_) | refine Zo ?_ | refine ok_seq ?_
          | refine ok_reg ?_ | refine Zp ?_ | refine Zq ?_ | refine Zr (fun hc => ?_) (fun hc => ?_) | refine ok_block ?_ | refine ok_exit ?_ | refine ok_skip ?_ | refine ok_ret ?_ | refine x_normal_then ?_ | refine x_exit_here ?_
          | refine Zs ?_ | refine Zv ?_ | refine x_ret_then ?_ | refine x_ret_block ?_ | refine x_normal_block ?_ | refine Zt ?_ | refine Zu ?_
        exact ⟨(q + 1, n + 1), ⟨hlt2, by simp only; omega⟩, by (try simp only); omega, low_mk (Nat.le_of_ble_eq_true rfl) ⟨⟨rfl, rfl⟩, ⟨rfl, rfl⟩, ⟨rfl, rfl⟩, ⟨rfl, rfl⟩, ⟨rfl, rfl⟩, ⟨rfl, rfl⟩, ⟨rfl, rfl⟩, ⟨rfl, rfl⟩, trivial⟩ ⟨⟨rfl, rfl⟩, trivial⟩⟩
    | false =>
      rw [hf, if_neg (by simp)] at l2
      obtain ⟨ho1, ho2⟩ := isf_f hf
      have d1 : decide (y.op = 21) = false := decide_eq_false ho1
      have d2 : decide (y.op = 22) = false := decide_eq_false ho2
      repeat' first
        | refine Z1 ?_ | refine Z2 ?_ | refine Z3 ?_ | refine Z4 ?_ | refine Z5 ?_ | refine Z6 ?_ | refine Z7 ?_ | refine Z8 ?_ | refine Z9 ?_ | refine Za (fun hc => ?_) (fun hc => ?_) | refine Zb (fun hc => ?_) (fun hc => ?_)
        | refine Zd ?_ | refine Ze ?_ | refine Zf ?_ | refine Zg ?_ | refine Zh ?_ | refine Zi ?_ | refine Zj ?_ | refine Zk ?_ | refine Zl ?_ | refine Zm ?_ | refine Zn (fun hc => ?_) (fun hc => ?_) | refine Zo ?_ | refine ok_seq ?_
        | refine ok_reg ?_ | refine Zp ?_ | refine Zq ?_ | refine Zr (fun hc => ?_) (fun hc => ?_) | refine ok_block ?_ | refine ok_exit ?_ | refine ok_skip ?_ | refine ok_ret ?_ | refine x_normal_then ?_ | refine x_exit_here ?_
        | refine Zs ?_ | refine Zv ?_ | refine x_ret_then ?_ | refine x_ret_block ?_ | refine x_normal_block ?_ | refine Zt ?_ | refine Zu ?_
      exact ⟨(q + 1, n), ⟨hlt2, by simp only; omega⟩, by (try simp only); omega, low_mk (Nat.le_of_ble_eq_true rfl) ⟨⟨rfl, rfl⟩, ⟨rfl, rfl⟩, ⟨rfl, rfl⟩, ⟨rfl, rfl⟩, ⟨rfl, rfl⟩, ⟨rfl, rfl⟩, ⟨rfl, rfl⟩, ⟨rfl, rfl⟩, trivial⟩ ⟨⟨rfl, rfl⟩, trivial⟩⟩
  obtain ⟨hd, hlt⟩ := drop_some hx
  have ek : decide ((k : Int) < (e.code.length : Int)) = true := decide_eq_true (by omega)
  rw [hd] at i2
  simp only [cntB] at i2
  have hbd : n ≤ 1048576 * 3 := by omega
  by_cases hlast : k + 1 = e.code.length
  · have d3 : decide ((k : Int) ≠ (e.code.length : Int) - 1) = false := decide_eq_false (by omega)
    rw [if_neg (fun h => h.2 hlast)] at i2
    repeat' first
      | refine Z1 ?_ | refine Z2 ?_ | refine Z3 ?_ | refine Z4 ?_ | refine Z5 ?_ | refine Z6 ?_ | refine Z7 ?_ | refine Z8 ?_ | refine Z9 ?_ | refine Za (fun hc => ?_) (fun hc => ?_) | refine Zb (fun hc => ?_) (fun hc => ?_) | refine Zd ?_
      | refine Ze ?_ | refine Zf ?_ | refine Zg ?_ | refine Zh ?_ | refine Zi ?_ | refine Zj ?_ | refine Zk ?_ | refine Zl ?_ | refine Zm ?_ | refine Zn (fun hc => ?_) (fun hc => ?_) | refine Zo ?_ | refine ok_seq ?_ | refine ok_reg ?_
      | refine Zp ?_ | refine Zq ?_ | refine Zr (fun hc => ?_) (fun hc => ?_) | refine ok_block ?_ | refine ok_exit ?_ | refine ok_skip ?_ | refine ok_ret ?_ | refine x_normal_then ?_ | refine x_exit_here ?_ | refine Zs ?_ | refine Zv ?_
      | refine x_ret_then ?_ | refine x_ret_block ?_ | refine x_normal_block ?_ | refine Zt ?_ | refine Zu ?_
    all_goals exact ⟨(k + 1, n), ⟨hlt, by simp only; omega⟩, by (try simp only); omega, low_mk (Nat.le_of_ble_eq_true rfl) ⟨⟨rfl, rfl⟩, ⟨rfl, rfl⟩, ⟨rfl, rfl⟩, ⟨rfl, rfl⟩, ⟨rfl, rfl⟩, trivial⟩ ⟨⟨rfl, rfl⟩, trivial⟩⟩
  · have d3 : decide ((k : Int) ≠ (e.code.length : Int) - 1) = true := decide_eq_true (by omega)
    cases hf : isF x with
    | true =>
      rw [hf, if_pos ⟨rfl, hlast⟩] at i2
      rcases isf_t hf with ho | ho
      · have d1 : decide (x.op = 21) = true := decide_eq_true ho
        repeat' first
          | refine Z1 ?_ | refine Z2 ?_ | refine Z3 ?_ | refine Z4 ?_ | refine Z5 ?_ | refine Z6 ?_ | refine Z7 ?_ | refine Z8 ?_ | refine Z9 ?_ | refine Za (fun hc => ?_) (fun hc => ?_) | refine Zb (fun hc => ?_) (fun hc => ?_)
          | refine Zd ?_ | refine Ze ?_ | refine Zf ?_ | refine Zg ?_ | refine Zh ?_ | refine Zi ?_ | refine Zj ?_ | refine Zk ?_ | refine Zl ?_ | refine Zm ?_ | refine Zn (fun hc => ?_) (fun hc => ?_) | refine Zo ?_ | refine ok_seq ?_
          | refine ok_reg ?_ | refine Zp ?_ | refine Zq ?_ | refine Zr (fun hc => ?_) (fun hc => ?_) | refine ok_block ?_ | refine ok_exit ?_ | refine ok_skip ?_ | refine ok_ret ?_ | refine x_normal_then ?_ | refine x_exit_here ?_
          | refine Zs ?_ | refine Zv ?_ | refine x_ret_then ?_ | refine x_ret_block ?_ | refine x_normal_block ?_ | refine Zt ?_ | refine Zu ?_
        exact ⟨(k + 1, n + 1), ⟨hlt, by simp only; omega⟩, by (try simp only); omega, low_mk (Nat.le_of_ble_eq_true rfl) ⟨⟨rfl, rfl⟩, ⟨rfl, rfl⟩, ⟨rfl, rfl⟩, ⟨rfl, rfl⟩, ⟨rfl, rfl⟩, trivial⟩ ⟨⟨rfl, rfl⟩, trivial⟩⟩
      · have d1 : decide (x.op = 21) = false := decide_eq_false (by omega)
        have d2 : decide (x.op = 22) = true := decide_eq_true ho
        repeat' first
          | refine Z1 ?_ | refine Z2 ?_ | refine Z3 ?_ | refine Z4 ?_ | refine Z5 ?_ | refine Z6 ?_ | refine Z7 ?_ | refine Z8 ?_ | refine Z9 ?_ | refine Za (fun hc => ?_) (fun hc => ?_) | refine Zb (fun hc => ?_) (fun hc => ?_)
          | refine Zd ?_ | refine Ze ?_ | refine Zf ?_ | refine Zg ?_ | refine Zh ?_ | refine Zi ?_ | refine Zj ?_ | refine Zk ?_ | refine Zl ?_ | refine Zm ?_ | refine Zn (fun hc => ?_) (fun hc => ?_) | refine Zo ?_ | refine ok_seq ?_
          | refine ok_reg ?_ | refine Zp ?_ | refine Zq ?_ | refine Zr (fun hc => ?_) (fun hc => ?_) | refine ok_block ?_ | refine ok_exit ?_ | refine ok_skip ?_ | refine ok_ret ?_ | refine x_normal_then ?_ | refine x_exit_here ?_
          | refine Zs ?_ | refine Zv ?_ | refine x_ret_then ?_ | refine x_ret_block ?_ | refine x_normal_block ?_ | refine Zt ?_ | refine Zu ?_
        exact ⟨(k + 1, n + 1), ⟨hlt, by simp only; omega⟩, by (try simp only); omega, low_mk (Nat.le_of_ble_eq_true rfl) ⟨⟨rfl, rfl⟩, ⟨rfl, rfl⟩, ⟨rfl, rfl⟩, ⟨rfl, rfl⟩, ⟨rfl, rfl⟩, trivial⟩ ⟨⟨rfl, rfl⟩, trivial⟩⟩
    | false =>
      rw [hf, if_neg (by simp)] at i2
      obtain ⟨ho1, ho2⟩ := isf_f hf
      have d1 : decide (x.op = 21) = false := decide_eq_false ho1
      have d2 : decide (x.op = 22) = false := decide_eq_false ho2
      repeat' first
        | refine Z1 ?_ | refine Z2 ?_ | refine Z3 ?_ | refine Z4 ?_ | refine Z5 ?_ | refine Z6 ?_ | refine Z7 ?_ | refine Z8 ?_ | refine Z9 ?_ | refine Za (fun hc => ?_) (fun hc => ?_) | refine Zb (fun hc => ?_) (fun hc => ?_)
        | refine Zd ?_ | refine Ze ?_ | refine Zf ?_ | refine Zg ?_ | refine Zh ?_ | refine Zi ?_ | refine Zj ?_ | refine Zk ?_ | refine Zl ?_ | refine Zm ?_ | refine Zn (fun hc => ?_) (fun hc => ?_) | refine Zo ?_ | refine ok_seq ?_
        | refine ok_reg ?_ | refine Zp ?_ | refine Zq ?_ | refine Zr (fun hc => ?_) (fun hc => ?_) | refine ok_block ?_ | refine ok_exit ?_ | refine ok_skip ?_ | refine ok_ret ?_ | refine x_normal_then ?_ | refine x_exit_here ?_
        | refine Zs ?_ | refine Zv ?_ | refine x_ret_then ?_ | refine x_ret_block ?_ | refine x_normal_block ?_ | refine Zt ?_ | refine Zu ?_
      exact ⟨(k + 1, n), ⟨hlt, by simp only; omega⟩, by (try simp only); omega, low_mk (Nat.le_of_ble_eq_true rfl) ⟨⟨rfl, rfl⟩, ⟨rfl, rfl⟩, ⟨rfl, rfl⟩, ⟨rfl, rfl⟩, ⟨rfl, rfl⟩, trivial⟩ ⟨⟨rfl, rfl⟩, trivial⟩⟩
end Go.Pm
