import Derived.Test.YtghgkmifoiokjaaDoorIm1
set_option linter.unusedVariables false
set_option linter.unusedSimpArgs false
namespace Go.Pm
attribute [local irreducible] AR Ok inBlock andThen endQ aoper
set_option maxHeartbeats 1000000
open Go.Proofs
theorem arityI_range (n : Int) : 0 ≤ arityI n ∧ arityI n ≤ 3 := by unfold arityI; split <;> (try split) <;> (try split) <;> omega
def postI : Int → List Itm → Bool
  | h, [] => decide (h = 1)
  | h, x :: l => if h < arityI x.op then false else postI (h + (1 - arityI x.op)) l
theorem postfix_ok (l : List Itm) (hl : l.length < 1099511627776) : PFun X 30 [.d (.im (l.map eItm))] (vb (postI 0 l)) := by
  refine pfun_of Tryd.func30 rfl (by decide) Tryd.ntmps30 Tryd.results30 (by simp) rfl rfl ?_
  repeat' first
    | refine Z1 ?_ | refine Z2 ?_ | refine Z3 ?_ | refine Z4 ?_ | refine Z5 ?_ | refine Z6 ?_ | refine Z7 ?_ | refine Z8 ?_ | refine Z9 ?_ | refine Za (fun hc => ?_) (fun hc => ?_) | refine Zb (fun hc => ?_) (fun hc => ?_) | refine Zd ?_
    | refine Ze ?_ | refine Zf ?_ | refine Zg ?_ | refine Zh ?_ | refine Zi ?_ | refine Zj ?_ | refine Zk ?_ | refine Zl ?_ | refine Zm ?_ | refine Zn (fun hc => ?_) (fun hc => ?_) | refine Zo ?_ | refine ok_seq ?_ | refine ok_reg ?_
    | refine Zp ?_ | refine Zq ?_ | refine Zr (fun hc => ?_) (fun hc => ?_) | refine ok_block ?_ | refine ok_exit ?_ | refine ok_skip ?_ | refine ok_ret ?_ | refine x_normal_then ?_ | refine x_exit_here ?_ | refine Zs ?_ | refine Zv ?_
    | refine x_ret_then ?_ | refine x_ret_block ?_ | refine x_normal_block ?_ | refine Zt ?_ | refine Zu ?_
  refine ok_for (ι := Nat × Int) (fun x => envL [(2, vb false), (3, vi x.2), (7, .d (.im (l.map eItm))), (8, vi l.length), (9, vi x.1)]) (fun x => stL []) (fun x => 0 ≤ x.2 ∧ x.2 ≤ x.1 ∧ x.1 ≤ l.length ∧ postI x.2 (l.drop x.1) = postI 0 l) (fun x => l.length - x.1) (0, 0) (by simp) (weak_mk rfl ⟨.refl _, .refl _, .refl _, .refl _, .refl _, trivial⟩ trivial) (fun _ => Nat.le_refl _) ?_
  rintro ⟨k, h⟩ ⟨i1, i2, i3, i4⟩
  simp only at i1 i2 i3 i4
  rcases hx : l[k]? with _ | x
  · have hle := none_le hx
    rw [drop_none hx] at i4
    repeat' first
      | refine Z1 ?_ | refine Z2 ?_ | refine Z3 ?_ | refine Z4 ?_ | refine Z5 ?_ | refine Z6 ?_ | refine Z7 ?_ | refine Z8 ?_ | refine Z9 ?_ | refine Za (fun hc => ?_) (fun hc => ?_) | refine Zb (fun hc => ?_) (fun hc => ?_) | refine Zd ?_
      | refine Ze ?_ | refine Zf ?_ | refine Zg ?_ | refine Zh ?_ | refine Zi ?_ | refine Zj ?_ | refine Zk ?_ | refine Zl ?_ | refine Zm ?_ | refine Zn (fun hc => ?_) (fun hc => ?_) | refine Zo ?_ | refine ok_seq ?_ | refine ok_reg ?_
      | refine Zp ?_ | refine Zq ?_ | refine Zr (fun hc => ?_) (fun hc => ?_) | refine ok_block ?_ | refine ok_exit ?_ | refine ok_skip ?_ | refine ok_ret ?_ | refine x_normal_then ?_ | refine x_exit_here ?_ | refine Zs ?_ | refine Zv ?_
      | refine x_ret_then ?_ | refine x_ret_block ?_ | refine x_normal_block ?_ | refine Zt ?_ | refine Zu ?_
    all_goals simp only [decide_eq_true_eq, decide_eq_false_iff_not, Bool.not_eq_true, Bool.not_eq_false, Bool.not_eq_eq_eq_not, Bool.not_true, Bool.not_false] at *
    · omega
    · exact ret_vb i4
  · have hr := arityI_range x.op
    obtain ⟨hd, hlt⟩ := drop_some hx
    rw [hd] at i4
    simp only [postI] at i4
    repeat' first
      | refine Z1 ?_ | refine Z2 ?_ | refine Z3 ?_ | refine Z4 ?_ | refine Z5 ?_ | refine Z6 ?_ | refine Z7 ?_ | refine Z8 ?_ | refine Z9 ?_ | refine Za (fun hc => ?_) (fun hc => ?_) | refine Zb (fun hc => ?_) (fun hc => ?_)
      | refine Zc (arity_ok _) ?_ | refine Zd ?_ | refine Ze ?_ | refine Zf ?_ | refine Zg ?_ | refine Zh ?_ | refine Zi ?_ | refine Zj ?_ | refine Zk ?_ | refine Zl ?_ | refine Zm ?_ | refine Zn (fun hc => ?_) (fun hc => ?_) | refine Zo ?_
      | refine ok_seq ?_ | refine ok_reg ?_ | refine Zp ?_ | refine Zq ?_ | refine Zr (fun hc => ?_) (fun hc => ?_) | refine ok_block ?_ | refine ok_exit ?_ | refine ok_skip ?_ | refine ok_ret ?_ | refine x_normal_then ?_
      | refine x_exit_here ?_ | refine Zs ?_ | refine Zv ?_ | refine x_ret_then ?_ | refine x_ret_block ?_ | refine x_normal_block ?_ | refine Zt ?_ | refine Zu ?_
    all_goals simp only [decide_eq_true_eq, decide_eq_false_iff_not, Bool.not_eq_true, Bool.not_eq_false, Bool.not_eq_eq_eq_not, Bool.not_true, Bool.not_false] at *
    · exact ret_vb (by rw [← i4, if_pos (by assumption)])
    · rw [if_neg (by assumption)] at i4
      exact ⟨(k + 1, h + (1 - arityI x.op)), ⟨by simp only; omega, by simp only; omega, by simp only; omega, i4⟩, by (try simp only); omega, low_mk (Nat.zero_le _) ⟨⟨rfl, rfl⟩, ⟨rfl, rfl⟩, ⟨rfl, rfl⟩, ⟨rfl, rfl⟩, ⟨rfl, rfl⟩, trivial⟩ trivial⟩
    · omega
end Go.Pm
