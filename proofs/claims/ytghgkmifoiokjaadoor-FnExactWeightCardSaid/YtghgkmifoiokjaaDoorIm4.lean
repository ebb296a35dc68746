import Derived.Test.YtghgkmifoiokjaaDoorIm3
set_option linter.unusedVariables false
set_option linter.unusedSimpArgs false
namespace Go.Pm
attribute [local irreducible] AR Ok inBlock andThen endQ aoper
set_option maxHeartbeats 1000000
open Go.Proofs
def nmI (x : Itm) : Bool := if x.op = 3 ∨ x.op = 23 ∨ x.op = 24 then nameI x.name else decide (x.name = ⟨#[]⟩)
def itemI (x : Itm) : Bool :=
  if x.op < 1 ∨ 24 < x.op then false
  else if x.op = 1 then (if x.val < 0 ∨ 2147483647 < x.val then false else nmI x)
  else if x.op = 2 ∨ x.op = 22 ∨ x.op = 23 then (if x.val ≠ 0 ∧ x.val ≠ 1 then false else nmI x)
  else if x.op = 21 then (if x.val < -2147483647 ∨ 2147483647 < x.val then false else nmI x)
  else if x.val ≠ 0 then false else nmI x
theorem item_ok (x : Itm) : PFun X 29 [.agg ((eItm x).map .d)] (vb (itemI x)) := by
  refine pfun_of Tryd.func29 rfl (by decide) Tryd.ntmps29 Tryd.results29 (by simp) rfl rfl ?_
  repeat' first
    | refine Z1 ?_ | refine Z2 ?_ | refine Z3 ?_ | refine Z4 ?_ | refine Z5 ?_ | refine Z6 ?_ | refine Z7 ?_ | refine Z8 ?_ | refine Z9 ?_ | refine Za (fun hc => ?_) (fun hc => ?_) | refine Zb (fun hc => ?_) (fun hc => ?_)
    | refine Zc (name_ok _) ?_ | refine Zd ?_ | refine Ze ?_ | refine Zf ?_ | refine Zg ?_ | refine Zh ?_ | refine Zi ?_ | refine Zj ?_ | refine Zk ?_ | refine Zl ?_ | refine Zm ?_ | refine Zn (fun hc => ?_) (fun hc => ?_) | refine Zo ?_
    | refine ok_seq ?_ | refine ok_reg ?_ | refine Zp ?_ | refine Zq ?_ | refine Zr (fun hc => ?_) (fun hc => ?_) | refine ok_block ?_ | refine ok_exit ?_ | refine ok_skip ?_ | refine ok_ret ?_ | refine x_normal_then ?_
    | refine x_exit_here ?_ | refine Zs ?_ | refine Zv ?_ | refine x_ret_then ?_ | refine x_ret_block ?_ | refine x_normal_block ?_ | refine Zt ?_ | refine Zu ?_
  all_goals simp only [decide_eq_true_eq, decide_eq_false_iff_not, Bool.not_eq_true, Bool.not_eq_false, Bool.not_eq_eq_eq_not, Bool.not_true, Bool.not_false] at *
  all_goals (refine ret_vb ?_; unfold itemI nmI; grind)
def exprI (l : List Itm) : Bool := if (l.length : Int) < 1 ∨ 3000 < (l.length : Int) then false else l.all itemI && postI 0 l
theorem expr_ok (l : List Itm) (hl : l.length < 1099511627776) : PFun X 18 [.d (.im (l.map eItm))] (vb (exprI l)) := by
  refine pfun_of Tryd.func18 rfl (by decide) Tryd.ntmps18 Tryd.results18 (by simp) rfl rfl ?_
  by_cases hbig : (l.length : Int) < 1 ∨ 3000 < (l.length : Int)
  · have hn : exprI l = false := by simp [exprI, hbig]
    repeat' first
      | refine Z1 ?_ | refine Z2 ?_ | refine Z3 ?_ | refine Z4 ?_ | refine Z5 ?_ | refine Z6 ?_ | refine Z7 ?_ | refine Z8 ?_ | refine Z9 ?_ | refine Za (fun hc => ?_) (fun hc => ?_) | refine Zb (fun hc => ?_) (fun hc => ?_) | refine Zd ?_
      | refine Ze ?_ | refine Zf ?_ | refine Zg ?_ | refine Zh ?_ | refine Zi ?_ | refine Zj ?_ | refine Zk ?_ | refine Zl ?_ | refine Zm ?_ | refine Zn (fun hc => ?_) (fun hc => ?_) | refine Zo ?_ | refine ok_seq ?_ | refine ok_reg ?_
      | refine Zp ?_ | refine Zq ?_ | refine Zr (fun hc => ?_) (fun hc => ?_) | refine ok_block ?_ | refine ok_exit ?_ | refine ok_skip ?_ | refine ok_ret ?_ | refine x_normal_then ?_ | refine x_exit_here ?_ | refine Zs ?_ | refine Zv ?_
      | refine x_ret_then ?_ | refine x_ret_block ?_ | refine x_normal_block ?_ | refine Zt ?_ | refine Zu ?_
    all_goals simp only [decide_eq_true_eq, decide_eq_false_iff_not, Bool.not_eq_true, Bool.not_eq_false, Bool.not_eq_eq_eq_not, Bool.not_true, Bool.not_false] at *
    all_goals first
      | exact ret_vb hn.symm
      | (exfalso; omega)
  · have e1 : decide ((l.length : Int) < 1) = false := decide_eq_false (by omega)
    have e2 : decide (3000 < (l.length : Int)) = false := decide_eq_false (by omega)
    have hn : exprI l = (l.all itemI && postI 0 l) := by simp only [exprI, hbig, if_false]
    repeat' first
      | refine Z1 ?_ | refine Z2 ?_ | refine Z3 ?_ | refine Z4 ?_ | refine Z5 ?_ | refine Z6 ?_ | refine Z7 ?_ | refine Z8 ?_ | refine Z9 ?_ | refine Za (fun hc => ?_) (fun hc => ?_) | refine Zb (fun hc => ?_) (fun hc => ?_) | refine Zd ?_
      | refine Ze ?_ | refine Zf ?_ | refine Zg ?_ | refine Zh ?_ | refine Zi ?_ | refine Zj ?_ | refine Zk ?_ | refine Zl ?_ | refine Zm ?_ | refine Zn (fun hc => ?_) (fun hc => ?_) | refine Zo ?_ | refine ok_seq ?_ | refine ok_reg ?_
      | refine Zp ?_ | refine Zq ?_ | refine Zr (fun hc => ?_) (fun hc => ?_) | refine ok_block ?_ | refine ok_exit ?_ | refine ok_skip ?_ | refine ok_ret ?_ | refine x_normal_then ?_ | refine x_exit_here ?_ | refine Zs ?_ | refine Zv ?_
      | refine x_ret_then ?_ | refine x_ret_block ?_ | refine x_normal_block ?_ | refine Zt ?_ | refine Zu ?_
    refine ok_for (ι := Nat) (fun x => envL [(0, .d (.im (l.map eItm))), (2, vb false), (13, .d (.im (l.map eItm))), (14, vi l.length), (15, vi x)]) (fun x => stL []) (fun x => x ≤ l.length ∧ ((l.drop x).all itemI && postI 0 l) = exprI l) (fun x => l.length - x) 0 (⟨by omega, by rw [hn]; simp⟩) (weak_mk rfl ⟨.refl _, .refl _, .refl _, .refl _, .refl _, trivial⟩ trivial) (fun _ => Nat.le_refl _) ?_
    rintro k ⟨i1, i2⟩
    rcases hx : l[k]? with _ | x
    · have hle := none_le hx
      have ek : decide ((k : Int) < (l.length : Int)) = false := decide_eq_false (by omega)
      rw [drop_none hx] at i2
      repeat' first
        | refine Z1 ?_ | refine Z2 ?_ | refine Z3 ?_ | refine Z4 ?_ | refine Z5 ?_ | refine Z6 ?_ | refine Z7 ?_ | refine Z8 ?_ | refine Z9 ?_ | refine Za (fun hc => ?_) (fun hc => ?_) | refine Zb (fun hc => ?_) (fun hc => ?_)
        | refine Zc (postfix_ok _ hl) ?_ | refine Zd ?_ | refine Ze ?_ | refine Zf ?_ | refine Zg ?_ | refine Zh ?_ | refine Zi ?_ | refine Zj ?_ | refine Zk ?_ | refine Zl ?_ | refine Zm ?_ | refine Zn (fun hc => ?_) (fun hc => ?_)
        | refine Zo ?_ | refine ok_seq ?_ | refine ok_reg ?_ | refine Zp ?_ | refine Zq ?_ | refine Zr (fun hc => ?_) (fun hc => ?_) | refine ok_block ?_ | refine ok_exit ?_ | refine ok_skip ?_ | refine ok_ret ?_ | refine x_normal_then ?_
        | refine x_exit_here ?_ | refine Zs ?_ | refine Zv ?_ | refine x_ret_then ?_ | refine x_ret_block ?_ | refine x_normal_block ?_ | refine Zt ?_ | refine Zu ?_
      exact ret_vb i2
    · obtain ⟨hd, hlt⟩ := drop_some hx
      have ek : decide ((k : Int) < (l.length : Int)) = true := decide_eq_true (by omega)
      rw [hd, List.all_cons] at i2
      cases hdx : itemI x with
      | false =>
        have ex : (!itemI x) = true := by rw [hdx]; rfl
        repeat' first
          | refine Z1 ?_ | refine Z2 ?_ | refine Z3 ?_ | refine Z4 ?_ | refine Z5 ?_ | refine Z6 ?_ | refine Z7 ?_ | refine Z8 ?_ | refine Z9 ?_ | refine Za (fun hc => ?_) (fun hc => ?_) | refine Zb (fun hc => ?_) (fun hc => ?_)
          | refine Zc (item_ok x) ?_ | refine Zd ?_ | refine Ze ?_ | refine Zf ?_ | refine Zg ?_ | refine Zh ?_ | refine Zi ?_ | refine Zj ?_ | refine Zk ?_ | refine Zl ?_ | refine Zm ?_ | refine Zn (fun hc => ?_) (fun hc => ?_)
          | refine Zo ?_ | refine ok_seq ?_ | refine ok_reg ?_ | refine Zp ?_ | refine Zq ?_ | refine Zr (fun hc => ?_) (fun hc => ?_) | refine ok_block ?_ | refine ok_exit ?_ | refine ok_skip ?_ | refine ok_ret ?_ | refine x_normal_then ?_
          | refine x_exit_here ?_ | refine Zs ?_ | refine Zv ?_ | refine x_ret_then ?_ | refine x_ret_block ?_ | refine x_normal_block ?_ | refine Zt ?_ | refine Zu ?_
        exact ret_vb (by rw [← i2, hdx]; rfl)
      | true =>
        have ex : (!itemI x) = false := by rw [hdx]; rfl
        repeat' first
          | refine Z1 ?_ | refine Z2 ?_ | refine Z3 ?_ | refine Z4 ?_ | refine Z5 ?_ | refine Z6 ?_ | refine Z7 ?_ | refine Z8 ?_ | refine Z9 ?_ | refine Za (fun hc => ?_) (fun hc => ?_) | refine Zb (fun hc => ?_) (fun hc => ?_)
          | refine Zc (item_ok x) ?_ | refine Zd ?_ | refine Ze ?_ | refine Zf ?_ | refine Zg ?_ | refine Zh ?_ | refine Zi ?_ | refine Zj ?_ | refine Zk ?_ | refine Zl ?_ | refine Zm ?_ | refine Zn (fun hc => ?_) (fun hc => ?_)
          | refine Zo ?_ | refine ok_seq ?_ | refine ok_reg ?_ | refine Zp ?_ | refine Zq ?_ | refine Zr (fun hc => ?_) (fun hc => ?_) | refine ok_block ?_ | refine ok_exit ?_ | refine ok_skip ?_ | refine ok_ret ?_ | refine x_normal_then ?_
          | refine x_exit_here ?_ | refine Zs ?_ | refine Zv ?_ | refine x_ret_then ?_ | refine x_ret_block ?_ | refine x_normal_block ?_ | refine Zt ?_ | refine Zu ?_
        rw [hdx, Bool.true_and] at i2
        exact ⟨k + 1, ⟨by omega, i2⟩, by (try simp only); omega, low_mk (Nat.zero_le _) ⟨⟨rfl, rfl⟩, ⟨rfl, rfl⟩, ⟨rfl, rfl⟩, ⟨rfl, rfl⟩, ⟨rfl, rfl⟩, trivial⟩ trivial⟩
end Go.Pm
