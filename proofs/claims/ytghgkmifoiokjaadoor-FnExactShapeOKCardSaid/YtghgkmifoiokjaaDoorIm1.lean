import Derived.Test.YtghgkmifoiokjaaDoorCf
set_option linter.unusedVariables false
set_option linter.unusedSimpArgs false
namespace Go.Pm
attribute [local irreducible] AR Ok inBlock andThen endQ aoper
set_option maxHeartbeats 1000000
open Go.Proofs
def digitI (c : UInt8) : Bool := decide (48 ≤ (c.toNat : Int)) && decide ((c.toNat : Int) ≤ 57)
def letterI (c : UInt8) : Bool := decide (97 ≤ (c.toNat : Int)) && decide ((c.toNat : Int) ≤ 122) || decide (65 ≤ (c.toNat : Int)) && decide ((c.toNat : Int) ≤ 90)
theorem digit_ok (c : UInt8) : PFun X 27 [.d (.s (.int .u8 c.toNat))] (vb (digitI c)) := by
  refine pfun_of Tryd.func27 rfl (by decide) Tryd.ntmps27 Tryd.results27 (by simp) rfl rfl ?_
  repeat' first
    | (refine ar_none rfl (op_step rfl ?_))
    | (refine (?_ : AR _ _ _ _ _ _ _); first
        | (refine ar_nil (x_normal_then ?_))
        | (refine ar_nil ?_)
        | (refine ar_bslice rfl rfl rfl rfl rfl rfl rfl rfl rfl rfl ?_)
        | (refine ar_none rfl ?_)
        | (refine ar_undef rfl rfl rfl rfl ?_)
        | (refine ar_hold2 rfl rfl rfl rfl (by with_reducible first | rfl | assumption) ?_)
        | (refine ar_skip_t rfl rfl rfl rfl (by with_reducible first | rfl | assumption) ?_)
        | (refine ar_skip_f rfl rfl rfl rfl (by with_reducible first | rfl | assumption) ?_)
        | (refine ar_split_t rfl rfl rfl rfl (fun hc => ?_) (fun hc => ?_))
        | (refine ar_split_f rfl rfl rfl rfl (fun hc => ?_) (fun hc => ?_)))
    | (refine (?_ : aoper _ _ _ _ _ _); first
        | (refine op_len rfl rfl rfl rfl rfl ?_)
        | (refine op_elem rfl rfl (by assumption) rfl rfl rfl rfl ?_)
        | (refine op_add rfl rfl (by omega) ?_)
        | (refine op_sub rfl rfl (by omega) ?_)
        | (refine op_bin rfl rfl rfl ?_)
        | (refine op_step rfl ?_)
        | (refine op_neb rfl rfl rfl rfl ?_)
        | (refine op_eqb rfl rfl rfl rfl ?_)
        | (refine op_pick_t rfl (by with_reducible first | rfl | assumption) rfl ?_)
        | (refine op_pick_f rfl (by with_reducible first | rfl | assumption) rfl ?_)
        | (refine op_pick rfl rfl rfl (fun hc => ?_) (fun hc => ?_)))
    | (refine (?_ : Ok _ _ _ _ _ _); first
        | (refine ok_seq (ok_reg ?_))
        | (refine ok_seq ?_)
        | (refine ok_reg ?_)
        | (refine cond_t rfl (by with_reducible first | rfl | assumption) ?_)
        | (refine cond_f rfl (by with_reducible first | rfl | assumption) ?_)
        | (refine ok_cond' rfl (fun hc => ?_) (fun hc => ?_))
        | (refine ok_block ?_)
        | (refine ok_exit ?_)
        | (refine ok_skip ?_)
        | (refine ok_ret ?_))
    | (refine x_normal_then ?_)
    | (refine x_exit_here ?_)
    | (refine x_exit_block rfl ?_)
    | (refine x_exit_then ?_)
    | (refine x_ret_then ?_)
    | (refine x_ret_block ?_)
    | (refine x_normal_block ?_)
    | (refine ret1 rfl ?_)
    | (refine retc rfl rfl rfl ?_)
  all_goals simp [digitI, *]
theorem letter_ok (c : UInt8) : PFun X 28 [.d (.s (.int .u8 c.toNat))] (vb (letterI c)) := by
  refine pfun_of Tryd.func28 rfl (by decide) Tryd.ntmps28 Tryd.results28 (by simp) rfl rfl ?_
  repeat' first
    | (refine ar_none rfl (op_step rfl ?_))
    | (refine (?_ : AR _ _ _ _ _ _ _); first
        | (refine ar_nil (x_normal_then ?_))
        | (refine ar_nil ?_)
        | (refine ar_bslice rfl rfl rfl rfl rfl rfl rfl rfl rfl rfl ?_)
        | (refine ar_none rfl ?_)
        | (refine ar_undef rfl rfl rfl rfl ?_)
        | (refine ar_hold2 rfl rfl rfl rfl (by with_reducible first | rfl | assumption) ?_)
        | (refine ar_skip_t rfl rfl rfl rfl (by with_reducible first | rfl | assumption) ?_)
        | (refine ar_skip_f rfl rfl rfl rfl (by with_reducible first | rfl | assumption) ?_)
        | (refine ar_split_t rfl rfl rfl rfl (fun hc => ?_) (fun hc => ?_))
        | (refine ar_split_f rfl rfl rfl rfl (fun hc => ?_) (fun hc => ?_)))
    | (refine (?_ : aoper _ _ _ _ _ _); first
        | (refine op_len rfl rfl rfl rfl rfl ?_)
        | (refine op_elem rfl rfl (by assumption) rfl rfl rfl rfl ?_)
        | (refine op_add rfl rfl (by omega) ?_)
        | (refine op_sub rfl rfl (by omega) ?_)
        | (refine op_bin rfl rfl rfl ?_)
        | (refine op_step rfl ?_)
        | (refine op_neb rfl rfl rfl rfl ?_)
        | (refine op_eqb rfl rfl rfl rfl ?_)
        | (refine op_pick_t rfl (by with_reducible first | rfl | assumption) rfl ?_)
        | (refine op_pick_f rfl (by with_reducible first | rfl | assumption) rfl ?_)
        | (refine op_pick rfl rfl rfl (fun hc => ?_) (fun hc => ?_)))
    | (refine (?_ : Ok _ _ _ _ _ _); first
        | (refine ok_seq (ok_reg ?_))
        | (refine ok_seq ?_)
        | (refine ok_reg ?_)
        | (refine cond_t rfl (by with_reducible first | rfl | assumption) ?_)
        | (refine cond_f rfl (by with_reducible first | rfl | assumption) ?_)
        | (refine ok_cond' rfl (fun hc => ?_) (fun hc => ?_))
        | (refine ok_block ?_)
        | (refine ok_exit ?_)
        | (refine ok_skip ?_)
        | (refine ok_ret ?_))
    | (refine x_normal_then ?_)
    | (refine x_exit_here ?_)
    | (refine x_exit_block rfl ?_)
    | (refine x_exit_then ?_)
    | (refine x_ret_then ?_)
    | (refine x_ret_block ?_)
    | (refine x_normal_block ?_)
    | (refine ret1 rfl ?_)
    | (refine retc rfl rfl rfl ?_)
  all_goals simp [letterI, *]
def arityI (op : Int) : Int := if op = 1 ∨ op = 2 ∨ op = 3 ∨ op = 25 then 0 else if op = 4 ∨ op = 5 ∨ op = 21 ∨ op = 22 ∨ op = 23 then 1 else if op = 20 then 3 else 2
theorem arity_ok (op : Int) : PFun X 46 [vi op] (vi (arityI op)) := by
  refine pfun_of Tryd.func46 rfl (by decide) Tryd.ntmps46 Tryd.results46 (by simp) rfl rfl ?_
  repeat' first
    | (refine ar_none rfl (op_step rfl ?_))
    | (refine (?_ : AR _ _ _ _ _ _ _); first
        | (refine ar_nil (x_normal_then ?_))
        | (refine ar_nil ?_)
        | (refine ar_bslice rfl rfl rfl rfl rfl rfl rfl rfl rfl rfl ?_)
        | (refine ar_none rfl ?_)
        | (refine ar_undef rfl rfl rfl rfl ?_)
        | (refine ar_hold2 rfl rfl rfl rfl (by with_reducible first | rfl | assumption) ?_)
        | (refine ar_skip_t rfl rfl rfl rfl (by with_reducible first | rfl | assumption) ?_)
        | (refine ar_skip_f rfl rfl rfl rfl (by with_reducible first | rfl | assumption) ?_)
        | (refine ar_split_t rfl rfl rfl rfl (fun hc => ?_) (fun hc => ?_))
        | (refine ar_split_f rfl rfl rfl rfl (fun hc => ?_) (fun hc => ?_)))
    | (refine (?_ : aoper _ _ _ _ _ _); first
        | (refine op_len rfl rfl rfl rfl rfl ?_)
        | (refine op_elem rfl rfl (by assumption) rfl rfl rfl rfl ?_)
        | (refine op_add rfl rfl (by omega) ?_)
        | (refine op_sub rfl rfl (by omega) ?_)
        | (refine op_bin rfl rfl rfl ?_)
        | (refine op_step rfl ?_)
        | (refine op_neb rfl rfl rfl rfl ?_)
        | (refine op_eqb rfl rfl rfl rfl ?_)
        | (refine op_pick_t rfl (by with_reducible first | rfl | assumption) rfl ?_)
        | (refine op_pick_f rfl (by with_reducible first | rfl | assumption) rfl ?_)
        | (refine op_pick rfl rfl rfl (fun hc => ?_) (fun hc => ?_)))
    | (refine (?_ : Ok _ _ _ _ _ _); first
        | (refine ok_seq (ok_reg ?_))
        | (refine ok_seq ?_)
        | (refine ok_reg ?_)
        | (refine cond_t rfl (by with_reducible first | rfl | assumption) ?_)
        | (refine cond_f rfl (by with_reducible first | rfl | assumption) ?_)
        | (refine ok_cond' rfl (fun hc => ?_) (fun hc => ?_))
        | (refine ok_block ?_)
        | (refine ok_exit ?_)
        | (refine ok_skip ?_)
        | (refine ok_ret ?_))
    | (refine x_normal_then ?_)
    | (refine x_exit_here ?_)
    | (refine x_exit_block rfl ?_)
    | (refine x_exit_then ?_)
    | (refine x_ret_then ?_)
    | (refine x_ret_block ?_)
    | (refine x_normal_block ?_)
    | (refine ret1 rfl ?_)
    | (refine retc rfl rfl rfl ?_)
  all_goals simp only [decide_eq_true_eq, decide_eq_false_iff_not, Bool.not_eq_true, Bool.not_eq_false, Bool.not_eq_eq_eq_not, Bool.not_true, Bool.not_false] at *
  all_goals simp [arityI, *]
end Go.Pm
