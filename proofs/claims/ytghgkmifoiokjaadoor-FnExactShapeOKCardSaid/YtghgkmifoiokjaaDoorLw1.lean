import Derived.Test.YtghgkmifoiokjaaDoorIm5
import Derived.Test.YtghgkmifoiokjaaDoorSp4
import Derived.Test.YtghgkmifoiokjaaDoorSz
set_option linter.unusedVariables false
set_option linter.unusedSimpArgs false
namespace Go.Pm
attribute [local irreducible] AR Ok inBlock andThen endQ aoper
set_option maxHeartbeats 1000000
open Go.Proofs
theorem law_shape (p : List Nod) (hd : dL dNod p) (hlaw : wL wNod p ≤ 1048576 → shapeI p = shapeS p) : PFun X 3 [.agg [.d (.im (p.map eNod))]] (vb true) := by
  have ht : (!true) = false := rfl
  refine pfun_of Tryd.func3 rfl (by decide) Tryd.ntmps3 Tryd.results3 (by simp) rfl rfl ?_
  by_cases hn : subI 1048576 (wL wNod p) < 0
  · have e1 : decide (subI 1048576 (wL wNod p) < 0) = true := decide_eq_true hn
    repeat' first
      | (refine ar_none rfl (op_step rfl ?_))
      | (refine (?_ : AR _ _ _ _ _ _ _); first
          | (refine ar_nil (x_normal_then ?_))
          | (refine ar_nil ?_)
          | (refine ar_bslice rfl rfl rfl rfl rfl rfl rfl rfl rfl rfl ?_)
          | (refine ar_none rfl ?_)
          | (refine ar_undef rfl rfl rfl rfl ?_)
          | (refine ar_hold2 rfl rfl rfl rfl (by with_reducible first | rfl | assumption) ?_)
          | (refine ar_skip_t rfl rfl rfl rfl (by with_reducible first | rfl | assumption) ?_)
          | (refine ar_skip_f rfl rfl rfl rfl (by with_reducible first | rfl | assumption) ?_)
          | (refine ar_split_t rfl rfl rfl rfl (fun hc => ?_) (fun hc => ?_))
          | (refine ar_split_f rfl rfl rfl rfl (fun hc => ?_) (fun hc => ?_)))
      | (refine (?_ : aoper _ _ _ _ _ _); first
          | (refine op_call (szProgram_ok p 1048576 (by omega) (by omega) hd) rfl rfl rfl ?_)
          | (refine op_len rfl rfl rfl rfl rfl ?_)
          | (refine op_elem rfl rfl (by assumption) rfl rfl rfl rfl ?_)
          | (refine op_add rfl rfl (by omega) ?_)
          | (refine op_sub rfl rfl (by omega) ?_)
          | (refine op_bin rfl rfl rfl ?_)
          | (refine op_step rfl ?_)
          | (refine op_neb rfl rfl rfl rfl ?_)
          | (refine op_eqb rfl rfl rfl rfl ?_)
          | (refine op_pick_t rfl (by with_reducible first | rfl | assumption) rfl ?_)
          | (refine op_pick_f rfl (by with_reducible first | rfl | assumption) rfl ?_)
          | (refine op_pick rfl rfl rfl (fun hc => ?_) (fun hc => ?_)))
      | (refine (?_ : Ok _ _ _ _ _ _); first
          | (refine ok_seq (ok_reg ?_))
          | (refine ok_seq ?_)
          | (refine ok_reg ?_)
          | (refine cond_t rfl (by with_reducible first | rfl | assumption) ?_)
          | (refine cond_f rfl (by with_reducible first | rfl | assumption) ?_)
          | (refine ok_cond' rfl (fun hc => ?_) (fun hc => ?_))
          | (refine ok_block ?_)
          | (refine ok_exit ?_)
          | (refine ok_skip ?_)
          | (refine ok_ret ?_))
      | (refine x_normal_then ?_)
      | (refine x_exit_here ?_)
      | (refine x_exit_block rfl ?_)
      | (refine x_exit_then ?_)
      | (refine x_ret_then ?_)
      | (refine x_ret_block ?_)
      | (refine x_normal_block ?_)
      | (refine ret1 rfl ?_)
      | (refine retc rfl rfl rfl ?_)
    rfl
  · have e1 : decide (subI 1048576 (wL wNod p) < 0) = false := decide_eq_false hn
    obtain ⟨h1, h2⟩ := subI_pos hn (by omega)
    have hw : wL wNod p ≤ 1048576 := by omega
    have e2 : (!(shapeI p == shapeS p)) = false := by rw [hlaw hw]; simp
    repeat' first
      | (refine ar_none rfl (op_step rfl ?_))
      | (refine (?_ : AR _ _ _ _ _ _ _); first
          | (refine ar_nil (x_normal_then ?_))
          | (refine ar_nil ?_)
          | (refine ar_bslice rfl rfl rfl rfl rfl rfl rfl rfl rfl rfl ?_)
          | (refine ar_none rfl ?_)
          | (refine ar_undef rfl rfl rfl rfl ?_)
          | (refine ar_hold2 rfl rfl rfl rfl (by with_reducible first | rfl | assumption) ?_)
          | (refine ar_skip_t rfl rfl rfl rfl (by with_reducible first | rfl | assumption) ?_)
          | (refine ar_skip_f rfl rfl rfl rfl (by with_reducible first | rfl | assumption) ?_)
          | (refine ar_split_t rfl rfl rfl rfl (fun hc => ?_) (fun hc => ?_))
          | (refine ar_split_f rfl rfl rfl rfl (fun hc => ?_) (fun hc => ?_)))
      | (refine (?_ : aoper _ _ _ _ _ _); first
          | (refine op_call (szProgram_ok p 1048576 (by omega) (by omega) hd) rfl rfl rfl ?_)
          | (refine op_call (toProgram_ok p hw) rfl rfl rfl ?_)
          | (refine op_call (shape_ok p hw) rfl rfl rfl ?_)
          | (refine op_call (sshape_ok p hw) rfl rfl rfl ?_)
          | (refine op_call (eqProgram_ok p hw) rfl rfl rfl ?_)
          | (refine op_len rfl rfl rfl rfl rfl ?_)
          | (refine op_elem rfl rfl (by assumption) rfl rfl rfl rfl ?_)
          | (refine op_add rfl rfl (by omega) ?_)
          | (refine op_sub rfl rfl (by omega) ?_)
          | (refine op_bin rfl rfl rfl ?_)
          | (refine op_step rfl ?_)
          | (refine op_neb rfl rfl rfl rfl ?_)
          | (refine op_eqb rfl rfl rfl rfl ?_)
          | (refine op_pick_t rfl (by with_reducible first | rfl | assumption) rfl ?_)
          | (refine op_pick_f rfl (by with_reducible first | rfl | assumption) rfl ?_)
          | (refine op_pick rfl rfl rfl (fun hc => ?_) (fun hc => ?_)))
      | (refine (?_ : AD _ _ _ _ _ _ _); first
          | (refine ad_none rfl (op_step rfl ⟨rfl, rfl⟩) ?_)
          | (refine ad_nil (x_normal_then ?_))
          | (refine ad_nil ?_)
          | (refine ad_none rfl (op_call (szProgram_ok p 1048576 (by omega) (by omega) hd) rfl rfl rfl ⟨rfl, rfl⟩) ?_)
          | (refine ad_none rfl (op_call (toProgram_ok p hw) rfl rfl rfl ⟨rfl, rfl⟩) ?_)
          | (refine ad_none rfl (op_call (shape_ok p hw) rfl rfl rfl ⟨rfl, rfl⟩) ?_)
          | (refine ad_none rfl (op_call (sshape_ok p hw) rfl rfl rfl ⟨rfl, rfl⟩) ?_)
          | (refine ad_none rfl (op_call (eqProgram_ok p hw) rfl rfl rfl ⟨rfl, rfl⟩) ?_)
          | (refine ad_none rfl (op_len rfl rfl rfl rfl rfl ⟨rfl, rfl⟩) ?_)
          | (refine ad_none rfl (op_elem rfl rfl (by assumption) rfl rfl rfl rfl ⟨rfl, rfl⟩) ?_)
          | (refine ad_none rfl (op_add rfl rfl (by omega) ⟨rfl, rfl⟩) ?_)
          | (refine ad_none rfl (op_sub rfl rfl (by omega) ⟨rfl, rfl⟩) ?_)
          | (refine ad_none rfl (op_bin rfl rfl rfl ⟨rfl, rfl⟩) ?_)
          | (refine ad_none rfl (op_step rfl ⟨rfl, rfl⟩) ?_)
          | (refine ad_none rfl (op_neb rfl rfl rfl rfl ⟨rfl, rfl⟩) ?_)
          | (refine ad_none rfl (op_eqb rfl rfl rfl rfl ⟨rfl, rfl⟩) ?_)
          | (refine ad_none rfl (op_pick_t rfl (by with_reducible first | rfl | assumption) rfl ⟨rfl, rfl⟩) ?_)
          | (refine ad_none rfl (op_pick_f rfl (by with_reducible first | rfl | assumption) rfl ⟨rfl, rfl⟩) ?_))
      | (refine (?_ : Ok _ _ _ _ _ _); first
          | (refine ok_seq (ok_reg ?_))
          | (refine ok_seq ?_)
          | (refine ok_reg ?_)
          | (refine ok_draw X_mixed (by decide +kernel) ?_)
          | (refine cond_t rfl (by with_reducible first | rfl | assumption) ?_)
          | (refine cond_f rfl (by with_reducible first | rfl | assumption) ?_)
          | (refine ok_cond' rfl (fun hc => ?_) (fun hc => ?_))
          | (refine ok_block ?_)
          | (refine ok_exit ?_)
          | (refine ok_skip ?_)
          | (refine ok_ret ?_))
      | (refine x_normal_then ?_)
      | (refine x_exit_here ?_)
      | (refine x_exit_block rfl ?_)
      | (refine x_exit_then ?_)
      | (refine x_ret_then ?_)
      | (refine x_ret_block ?_)
      | (refine x_normal_block ?_)
      | (refine ret1 rfl ?_)
      | (refine retc rfl rfl rfl ?_)
    rfl
end Go.Pm
