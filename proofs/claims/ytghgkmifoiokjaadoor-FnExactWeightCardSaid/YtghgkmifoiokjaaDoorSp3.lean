import Derived.Test.YtghgkmifoiokjaaDoorSp2
import Derived.Test.YtghgkmifoiokjaaDoorTo
set_option linter.unusedVariables false
set_option linter.unusedSimpArgs false
namespace Go.Pm
attribute [local irreducible] AR Ok inBlock andThen endQ aoper
set_option maxHeartbeats 1000000
open Go.Proofs
def varsS (x : Nod) : List Vr := x.ins ++ x.outs ++ x.vars
theorem svars_ok (x : Nod) (hw : wNod x ≤ 1048576) : PFun X 13 [.agg ((eNod x).map .d)] (.d (.im ((varsS x).map eVr))) := by
  simp only [wNod, wL] at hw
  refine pfun_of Tryd.func13 rfl (by decide) Tryd.ntmps13 Tryd.results13 (by simp) rfl rfl ?_
  repeat' first
    | refine Z1 ?_ | refine Z2 ?_ | refine Z3 ?_ | refine Z5 ?_ | refine Z6 ?_ | refine Z7 ?_ | refine Z8 ?_ | refine Z9 ?_ | refine Za (fun hc => ?_) (fun hc => ?_) | refine Zb (fun hc => ?_) (fun hc => ?_)
    | refine op_bslice rfl rfl rfl rfl rfl rfl rfl ?_ | refine op_append (e := eVr) (l := []) (m := x.ins) rfl rfl rfl rfl rfl rfl rfl rfl rfl rfl rfl rfl rfl (fun _ => rfl) (by first | omega | (simp; omega)) rfl ?_
    | refine op_append (e := eVr) (l := [] ++ x.ins) (m := x.outs) rfl rfl rfl rfl rfl rfl rfl rfl rfl rfl rfl rfl rfl (fun _ => rfl) (by first | omega | (simp; omega)) rfl ?_
    | refine op_append (e := eVr) (l := [] ++ x.ins ++ x.outs) (m := x.vars) rfl rfl rfl rfl rfl rfl rfl rfl rfl rfl rfl rfl rfl (fun _ => rfl) (by first | omega | (simp; omega)) rfl ?_ | refine Zd ?_ | refine Ze ?_ | refine Zf ?_
    | refine Zg ?_ | refine Zh ?_ | refine Zi ?_ | refine Zj ?_ | refine Zk ?_ | refine Zl ?_ | refine Zm ?_ | refine Zn (fun hc => ?_) (fun hc => ?_) | refine fz_rows (e := eVr) (l := varsS x) rfl 2 rfl rfl rfl ?_ | refine Zo ?_
    | refine ok_seq ?_ | refine ok_reg ?_ | refine Zp ?_ | refine Zq ?_ | refine Zr (fun hc => ?_) (fun hc => ?_) | refine ok_block ?_ | refine ok_exit ?_ | refine ok_skip ?_ | refine ok_ret ?_ | refine x_normal_then ?_
    | refine x_exit_here ?_ | refine Zs ?_ | refine Zv ?_ | refine x_ret_then ?_ | refine x_ret_block ?_ | refine x_normal_block ?_ | refine Zt ?_ | refine Zu ?_
  rfl
def oneS (c : List Itm) : Bool := codeS c 3000 && c.all fun t => !decide (t.op = 25)
def eqS (x : Eqn) : Bool :=
  if !x.lhs.all nameS then false
  else if (x.lhs.length : Int) < 1 ∨ 500 < (x.lhs.length : Int) ∨ 500 < (x.args.length : Int) then false
  else if x.call = ⟨#[]⟩ then (if (x.lhs.length : Int) ≠ 1 ∨ (x.args.length : Int) ≠ 0 then false else [x.code].all oneS)
  else if !nameS x.call || decide ((x.code.length : Int) ≠ 0) then false else x.args.all oneS
theorem eqS_tail {x : Eqn} (h : x.lhs.all nameS = true) : eqS x = if (x.lhs.length : Int) < 1 ∨ 500 < (x.lhs.length : Int) ∨ 500 < (x.args.length : Int) then false
  else if x.call = ⟨#[]⟩ then (if (x.lhs.length : Int) ≠ 1 ∨ (x.args.length : Int) ≠ 0 then false else [x.code].all oneS)
  else if !nameS x.call || decide ((x.code.length : Int) ≠ 0) then false else x.args.all oneS := by unfold eqS; rw [h]; rfl
theorem seq_ok (x0 : Eqn) (hw : wEqn x0 ≤ 1048576) : PFun X 15 [.agg ((eEqn x0).map .d)] (vb (eqS x0)) := by
  have hw1 : x0.lhs.length ≤ 1048576 := by simp only [wEqn, wL] at hw; omega
  have hw2 : x0.args.length ≤ 1048576 := by simp only [wEqn, wL] at hw; omega
  have hw3 : x0.code.length ≤ 1048576 := by simp only [wEqn, wL] at hw; omega
  have hw4 : ∀ c ∈ x0.args, c.length ≤ 1048576 := by
    intro c hc
    have := wL_mem (w := wL wItm) hc
    simp only [wEqn, wL] at hw this
    omega
  refine pfun_of Tryd.func15 rfl (by decide) Tryd.ntmps15 Tryd.results15 (by simp) rfl rfl ?_
  repeat' first
    | refine Z1 ?_ | refine Z2 ?_ | refine Z3 ?_ | refine Z4 ?_ | refine Z5 ?_ | refine Z6 ?_ | refine Z7 ?_ | refine Z8 ?_ | refine Z9 ?_ | refine Za (fun hc => ?_) (fun hc => ?_) | refine Zb (fun hc => ?_) (fun hc => ?_) | refine Zd ?_
    | refine Ze ?_ | refine Zf ?_ | refine Zg ?_ | refine Zh ?_ | refine Zi ?_ | refine Zj ?_ | refine Zk ?_ | refine Zl ?_ | refine Zm ?_ | refine Zn (fun hc => ?_) (fun hc => ?_) | refine Zo ?_ | refine ok_seq ?_ | refine ok_reg ?_
    | refine Zp ?_ | refine Zq ?_ | refine Zr (fun hc => ?_) (fun hc => ?_) | refine ok_block ?_ | refine ok_exit ?_ | refine ok_skip ?_ | refine ok_ret ?_ | refine x_normal_then ?_ | refine x_exit_here ?_ | refine Zs ?_ | refine Zv ?_
    | refine x_ret_then ?_ | refine x_ret_block ?_ | refine x_normal_block ?_ | refine Zt ?_ | refine Zu ?_
  refine ok_for (ι := Nat) (fun x => envL [(2, vb false), (1, .ref 0 0), (11, .d (.im (x0.lhs.map eStr))), (12, vi x0.lhs.length), (13, vi x)]) (fun x => stL [some (.var ((eEqn x0).map .d))]) (fun x => x ≤ x0.lhs.length ∧ ((x0.lhs.drop x).all nameS = true → x0.lhs.all nameS = true) ∧ ((x0.lhs.drop x).all nameS = false → x0.lhs.all nameS = false)) (fun x => x0.lhs.length - x) 0 (⟨Nat.zero_le _, id, id⟩) (weak_mk rfl ⟨.refl _, .refl _, .refl _, .refl _, .refl _, trivial⟩ ⟨⟨rfl, _, rfl, rfl, fun _ _ _ => .refl _⟩, trivial⟩) (fun _ => Nat.le_refl _) ?_
  rintro k ⟨i1, i2, i3⟩
  rcases hx : x0.lhs[k]? with _ | s
  · have hle := none_le hx
    have ek : decide ((k : Int) < (x0.lhs.length : Int)) = false := decide_eq_false (by omega)
    rw [drop_none hx] at i2 i3
    have hnm := i2 rfl
    by_cases hbad : (x0.lhs.length : Int) < 1 ∨ 500 < (x0.lhs.length : Int) ∨ 500 < (x0.args.length : Int)
    · have hn : eqS x0 = false := by rw [eqS_tail hnm, if_pos hbad]
      repeat' first
        | refine Z1 ?_ | refine Z2 ?_ | refine Z3 ?_ | refine Z4 ?_ | refine Z5 ?_ | refine Z6 ?_ | refine Z7 ?_ | refine Z8 ?_ | refine Z9 ?_ | refine Za (fun hc => ?_) (fun hc => ?_) | refine Zb (fun hc => ?_) (fun hc => ?_)
        | refine Zd ?_ | refine Ze ?_ | refine Zf ?_ | refine Zg ?_ | refine Zh ?_ | refine Zi ?_ | refine Zj ?_ | refine Zk ?_ | refine Zl ?_ | refine Zm ?_ | refine Zn (fun hc => ?_) (fun hc => ?_) | refine Zo ?_ | refine ok_seq ?_
        | refine ok_reg ?_ | refine Zp ?_ | refine Zq ?_ | refine Zr (fun hc => ?_) (fun hc => ?_) | refine ok_block ?_ | refine ok_exit ?_ | refine ok_skip ?_ | refine ok_ret ?_ | refine x_normal_then ?_ | refine x_exit_here ?_
        | refine Zs ?_ | refine Zv ?_ | refine x_ret_then ?_ | refine x_ret_block ?_ | refine x_normal_block ?_ | refine Zt ?_ | refine Zu ?_
      all_goals simp only [decide_eq_true_eq, decide_eq_false_iff_not, Bool.not_eq_true, Bool.not_eq_false, Bool.not_eq_eq_eq_not, Bool.not_true, Bool.not_false] at *
      all_goals first
        | exact ret_vb hn.symm
        | (exfalso; omega)
    have b1 : decide ((x0.lhs.length : Int) < 1) = false := decide_eq_false (by omega)
    have b2 : decide (500 < (x0.lhs.length : Int)) = false := decide_eq_false (by omega)
    have b3 : decide (500 < (x0.args.length : Int)) = false := decide_eq_false (by omega)
    by_cases hcall : x0.call = ⟨#[]⟩
    · have b4 : decide (x0.call = ⟨#[]⟩) = true := decide_eq_true hcall
      by_cases hb2 : (x0.lhs.length : Int) ≠ 1 ∨ (x0.args.length : Int) ≠ 0
      · have hn : eqS x0 = false := by rw [eqS_tail hnm, if_neg hbad, if_pos hcall, if_pos hb2]
        repeat' first
          | refine Z1 ?_ | refine Z2 ?_ | refine Z3 ?_ | refine Z4 ?_ | refine Z5 ?_ | refine Z6 ?_ | refine Z7 ?_ | refine Z8 ?_ | refine Z9 ?_ | refine Za (fun hc => ?_) (fun hc => ?_) | refine Zb (fun hc => ?_) (fun hc => ?_)
          | refine Zd ?_ | refine Ze ?_ | refine Zf ?_ | refine Zg ?_ | refine Zh ?_ | refine Zi ?_ | refine Zj ?_ | refine Zk ?_ | refine Zl ?_ | refine Zm ?_ | refine Zn (fun hc => ?_) (fun hc => ?_) | refine Zo ?_ | refine ok_seq ?_
          | refine ok_reg ?_ | refine Zp ?_ | refine Zq ?_ | refine Zr (fun hc => ?_) (fun hc => ?_) | refine ok_block ?_ | refine ok_exit ?_ | refine ok_skip ?_ | refine ok_ret ?_ | refine x_normal_then ?_ | refine x_exit_here ?_
          | refine Zs ?_ | refine Zv ?_ | refine x_ret_then ?_ | refine x_ret_block ?_ | refine x_normal_block ?_ | refine Zt ?_ | refine Zu ?_
        all_goals simp only [decide_eq_true_eq, decide_eq_false_iff_not, Bool.not_eq_true, Bool.not_eq_false, Bool.not_eq_eq_eq_not, Bool.not_true, Bool.not_false] at *
        all_goals first
          | exact ret_vb hn.symm
          | (exfalso; omega)
      · have b5 : decide ((x0.lhs.length : Int) ≠ 1) = false := decide_eq_false (by omega)
        have b6 : decide ((x0.args.length : Int) ≠ 0) = false := decide_eq_false (by omega)
        have hn : eqS x0 = [x0.code].all oneS := by rw [eqS_tail hnm, if_neg hbad, if_pos hcall, if_neg hb2]
        have hal0 : [x0.code].length ≤ 1048576 := by simp
        have hal : ∀ c ∈ [x0.code], c.length ≤ 1048576 := by intro c hc; simp only [List.mem_singleton] at hc; rw [hc]; exact hw3
        repeat' first
          | refine Z1 ?_ | refine Z2 ?_ | refine Z3 ?_ | refine Z4 ?_ | refine Z5 ?_ | refine Z6 ?_ | refine Z7 ?_ | refine Z8 ?_ | refine Z9 ?_ | refine Za (fun hc => ?_) (fun hc => ?_) | refine Zb (fun hc => ?_) (fun hc => ?_)
          | refine op_len (e := eItms) (l := [x0.code]) rfl rfl rfl rfl rfl ?_ | refine Zd ?_ | refine Ze ?_ | refine Zf ?_ | refine Zg ?_ | refine Zh ?_ | refine Zi ?_ | refine Zj ?_ | refine Zk ?_ | refine Zl ?_ | refine Zm ?_
          | refine Zn (fun hc => ?_) (fun hc => ?_) | refine Zo ?_ | refine ok_seq ?_ | refine ok_reg ?_ | refine Zp ?_ | refine Zq ?_ | refine Zr (fun hc => ?_) (fun hc => ?_) | refine ok_block ?_ | refine ok_exit ?_ | refine ok_skip ?_
          | refine ok_ret ?_ | refine x_normal_then ?_ | refine x_exit_here ?_ | refine Zs ?_ | refine Zv ?_ | refine x_ret_then ?_ | refine x_ret_block ?_ | refine x_normal_block ?_ | refine Zt ?_ | refine Zu ?_
        refine ok_for (ι := Nat) (fun x => envL [(2, vb false), (65, .d (.im ([x0.code].map eItms))), (66, vi [x0.code].length), (67, vi x)]) (fun x => stL [none, none]) (fun x => x ≤ [x0.code].length ∧ ([x0.code].drop x).all oneS = eqS x0) (fun x => [x0.code].length - x) 0 (⟨Nat.zero_le _, by rw [List.drop_zero]; exact hn.symm⟩) (weak_mk rfl ⟨.refl _, .refl _, .refl _, .refl _, trivial⟩ trivial) (fun _ => Nat.le_refl _) ?_
        rintro k ⟨i1, i2⟩
        rcases hx : ([x0.code])[k]? with _ | c
        · have hle := none_le hx
          have ek : decide ((k : Int) < ([x0.code].length : Int)) = false := decide_eq_false (by omega)
          rw [drop_none hx] at i2
          repeat' first
            | refine Z1 ?_ | refine Z2 ?_ | refine Z3 ?_ | refine Z4 ?_ | refine Z5 ?_ | refine Z6 ?_ | refine Z7 ?_ | refine Z8 ?_ | refine Z9 ?_ | refine Za (fun hc => ?_) (fun hc => ?_) | refine Zb (fun hc => ?_) (fun hc => ?_)
            | refine Zd ?_ | refine Ze ?_ | refine Zf ?_ | refine Zg ?_ | refine Zh ?_ | refine Zi ?_ | refine Zj ?_ | refine Zk ?_ | refine Zl ?_ | refine Zm ?_ | refine Zn (fun hc => ?_) (fun hc => ?_) | refine Zo ?_ | refine ok_seq ?_
            | refine ok_reg ?_ | refine Zp ?_ | refine Zq ?_ | refine Zr (fun hc => ?_) (fun hc => ?_) | refine ok_block ?_ | refine ok_exit ?_ | refine ok_skip ?_ | refine ok_ret ?_ | refine x_normal_then ?_ | refine x_exit_here ?_
            | refine Zs ?_ | refine Zv ?_ | refine x_ret_then ?_ | refine x_ret_block ?_ | refine x_normal_block ?_ | refine Zt ?_ | refine Zu ?_
          exact ret_vb i2
        · obtain ⟨hd, hlt⟩ := drop_some hx
          have ek : decide ((k : Int) < ([x0.code].length : Int)) = true := decide_eq_true (by omega)
          have hc := hal c (List.mem_of_getElem? hx)
          rw [hd, List.all_cons] at i2
          cases hco : codeS c 3000 with
          | false =>
            have ex : (!codeS c 3000) = true := by rw [hco]; rfl
            repeat' first
              | refine Z1 ?_ | refine Z2 ?_ | refine Z3 ?_ | refine Z4 ?_ | refine Z5 ?_ | refine Z6 ?_ | refine Z7 ?_ | refine Z8 ?_ | refine Z9 ?_ | refine Za (fun hc => ?_) (fun hc => ?_) | refine Zb (fun hc => ?_) (fun hc => ?_)
              | refine Zc (scode_ok c 3000 hc) ?_ | refine Zd ?_ | refine Ze ?_ | refine Zf ?_ | refine Zg ?_ | refine Zh ?_ | refine Zi ?_ | refine Zj ?_ | refine Zk ?_ | refine Zl ?_ | refine Zm ?_
              | refine Zn (fun hc => ?_) (fun hc => ?_) | refine Zo ?_ | refine ok_seq ?_ | refine ok_reg ?_ | refine Zp ?_ | refine Zq ?_ | refine Zr (fun hc => ?_) (fun hc => ?_) | refine ok_block ?_ | refine ok_exit ?_
              | refine ok_skip ?_ | refine ok_ret ?_ | refine x_normal_then ?_ | refine x_exit_here ?_ | refine Zs ?_ | refine Zv ?_ | refine x_ret_then ?_ | refine x_ret_block ?_ | refine x_normal_block ?_ | refine Zt ?_ | refine Zu ?_
            exact ret_vb (by rw [← i2]; simp [oneS, hco])
          | true =>
            have ex : (!codeS c 3000) = false := by rw [hco]; rfl
            repeat' first
              | refine Z1 ?_ | refine Z2 ?_ | refine Z3 ?_ | refine Z4 ?_ | refine Z5 ?_ | refine Z6 ?_ | refine Z7 ?_ | refine Z8 ?_ | refine Z9 ?_ | refine Za (fun hc => ?_) (fun hc => ?_) | refine Zb (fun hc => ?_) (fun hc => ?_)
              | refine Zc (scode_ok c 3000 hc) ?_ | refine Zd ?_ | refine Ze ?_ | refine Zf ?_ | refine Zg ?_ | refine Zh ?_ | refine Zi ?_ | refine Zj ?_ | refine Zk ?_ | refine Zl ?_ | refine Zm ?_
              | refine Zn (fun hc => ?_) (fun hc => ?_) | refine Zo ?_ | refine ok_seq ?_ | refine ok_reg ?_ | refine Zp ?_ | refine Zq ?_ | refine Zr (fun hc => ?_) (fun hc => ?_) | refine ok_block ?_ | refine ok_exit ?_
              | refine ok_skip ?_ | refine ok_ret ?_ | refine x_normal_then ?_ | refine x_exit_here ?_ | refine Zs ?_ | refine Zv ?_ | refine x_ret_then ?_ | refine x_ret_block ?_ | refine x_normal_block ?_ | refine Zt ?_ | refine Zu ?_
            refine ok_for (ι := Nat) (fun x => envL [(2, vb false), (65, .d (.im ([x0.code].map eItms))), (66, vi [x0.code].length), (67, vi k), (74, .d (.im (c.map eItm))), (75, vi c.length), (76, vi x)]) (fun x => stL [none, none]) (fun x => x ≤ c.length ∧ ((c.drop x).all (fun t => !decide (t.op = 25)) && ([x0.code].drop (k + 1)).all oneS) = eqS x0) (fun x => c.length - x) 0 (⟨Nat.zero_le _, by rw [← i2]; simp [oneS, hco]⟩) (weak_mk rfl ⟨.refl _, .refl _, .refl _, .refl _, .refl _, .refl _, .refl _, trivial⟩ trivial) (fun _ => Nat.le_refl _) ?_
            rintro q ⟨j1, j2⟩
            rcases hy : c[q]? with _ | t
            · have hle := none_le hy
              have eq : decide ((q : Int) < (c.length : Int)) = false := decide_eq_false (by omega)
              rw [drop_none hy, List.all_nil, Bool.true_and] at j2
              repeat' first
                | refine Z1 ?_ | refine Z2 ?_ | refine Z3 ?_ | refine Z4 ?_ | refine Z5 ?_ | refine Z6 ?_ | refine Z7 ?_ | refine Z8 ?_ | refine Z9 ?_ | refine Za (fun hc => ?_) (fun hc => ?_) | refine Zb (fun hc => ?_) (fun hc => ?_)
                | refine Zd ?_ | refine Ze ?_ | refine Zf ?_ | refine Zg ?_ | refine Zh ?_ | refine Zi ?_ | refine Zj ?_ | refine Zk ?_ | refine Zl ?_ | refine Zm ?_ | refine Zn (fun hc => ?_) (fun hc => ?_) | refine Zo ?_
                | refine ok_seq ?_ | refine ok_reg ?_ | refine Zp ?_ | refine Zq ?_ | refine Zr (fun hc => ?_) (fun hc => ?_) | refine ok_block ?_ | refine ok_exit ?_ | refine ok_skip ?_ | refine ok_ret ?_ | refine x_normal_then ?_
                | refine x_exit_here ?_ | refine Zs ?_ | refine Zv ?_ | refine x_ret_then ?_ | refine x_ret_block ?_ | refine x_normal_block ?_ | refine Zt ?_ | refine Zu ?_
              exact ⟨k + 1, ⟨hlt, j2⟩, by (try simp only); omega, low_mk (Nat.le_of_ble_eq_true rfl) ⟨⟨rfl, rfl⟩, ⟨rfl, rfl⟩, ⟨rfl, rfl⟩, ⟨rfl, rfl⟩, trivial⟩ trivial⟩
            · obtain ⟨hd2, hlt2⟩ := drop_some hy
              have eq : decide ((q : Int) < (c.length : Int)) = true := decide_eq_true (by omega)
              rw [hd2, List.all_cons] at j2
              cases ht : decide (t.op = 25) with
              | true =>
                repeat' first
                  | refine Z1 ?_ | refine Z2 ?_ | refine Z3 ?_ | refine Z4 ?_ | refine Z5 ?_ | refine Z6 ?_ | refine Z7 ?_ | refine Z8 ?_ | refine Z9 ?_ | refine Za (fun hc => ?_) (fun hc => ?_) | refine Zb (fun hc => ?_) (fun hc => ?_)
                  | refine Zd ?_ | refine Ze ?_ | refine Zf ?_ | refine Zg ?_ | refine Zh ?_ | refine Zi ?_ | refine Zj ?_ | refine Zk ?_ | refine Zl ?_ | refine Zm ?_ | refine Zn (fun hc => ?_) (fun hc => ?_) | refine Zo ?_
                  | refine ok_seq ?_ | refine ok_reg ?_ | refine Zp ?_ | refine Zq ?_ | refine Zr (fun hc => ?_) (fun hc => ?_) | refine ok_block ?_ | refine ok_exit ?_ | refine ok_skip ?_ | refine ok_ret ?_ | refine x_normal_then ?_
                  | refine x_exit_here ?_ | refine Zs ?_ | refine Zv ?_ | refine x_ret_then ?_ | refine x_ret_block ?_ | refine x_normal_block ?_ | refine Zt ?_ | refine Zu ?_
                exact ret_vb (by rw [← j2, ht]; rfl)
              | false =>
                repeat' first
                  | refine Z1 ?_ | refine Z2 ?_ | refine Z3 ?_ | refine Z4 ?_ | refine Z5 ?_ | refine Z6 ?_ | refine Z7 ?_ | refine Z8 ?_ | refine Z9 ?_ | refine Za (fun hc => ?_) (fun hc => ?_) | refine Zb (fun hc => ?_) (fun hc => ?_)
                  | refine Zd ?_ | refine Ze ?_ | refine Zf ?_ | refine Zg ?_ | refine Zh ?_ | refine Zi ?_ | refine Zj ?_ | refine Zk ?_ | refine Zl ?_ | refine Zm ?_ | refine Zn (fun hc => ?_) (fun hc => ?_) | refine Zo ?_
                  | refine ok_seq ?_ | refine ok_reg ?_ | refine Zp ?_ | refine Zq ?_ | refine Zr (fun hc => ?_) (fun hc => ?_) | refine ok_block ?_ | refine ok_exit ?_ | refine ok_skip ?_ | refine ok_ret ?_ | refine x_normal_then ?_
                  | refine x_exit_here ?_ | refine Zs ?_ | refine Zv ?_ | refine x_ret_then ?_ | refine x_ret_block ?_ | refine x_normal_block ?_ | refine Zt ?_ | refine Zu ?_
                rw [ht, Bool.not_false, Bool.true_and] at j2
                exact ⟨q + 1, ⟨hlt2, j2⟩, by (try simp only); omega, low_mk (Nat.le_of_ble_eq_true rfl) ⟨⟨rfl, rfl⟩, ⟨rfl, rfl⟩, ⟨rfl, rfl⟩, ⟨rfl, rfl⟩, ⟨rfl, rfl⟩, ⟨rfl, rfl⟩, ⟨rfl, rfl⟩, trivial⟩ trivial⟩
    · have b4 : decide (x0.call = ⟨#[]⟩) = false := decide_eq_false hcall
      cases hnc : nameS x0.call with
      | false =>
        have b5 : (!nameS x0.call) = true := by rw [hnc]; rfl
        have hn : eqS x0 = false := by rw [eqS_tail hnm, if_neg hbad, if_neg hcall, hnc]; rfl
        repeat' first
          | refine Z1 ?_ | refine Z2 ?_ | refine Z3 ?_ | refine Z4 ?_ | refine Z5 ?_ | refine Z6 ?_ | refine Z7 ?_ | refine Z8 ?_ | refine Z9 ?_ | refine Za (fun hc => ?_) (fun hc => ?_) | refine Zb (fun hc => ?_) (fun hc => ?_)
          | refine Zc (sname_ok _) ?_ | refine Zd ?_ | refine Ze ?_ | refine Zf ?_ | refine Zg ?_ | refine Zh ?_ | refine Zi ?_ | refine Zj ?_ | refine Zk ?_ | refine Zl ?_ | refine Zm ?_ | refine Zn (fun hc => ?_) (fun hc => ?_)
          | refine Zo ?_ | refine ok_seq ?_ | refine ok_reg ?_ | refine Zp ?_ | refine Zq ?_ | refine Zr (fun hc => ?_) (fun hc => ?_) | refine ok_block ?_ | refine ok_exit ?_ | refine ok_skip ?_ | refine ok_ret ?_ | refine x_normal_then ?_
          | refine x_exit_here ?_ | refine Zs ?_ | refine Zv ?_ | refine x_ret_then ?_ | refine x_ret_block ?_ | refine x_normal_block ?_ | refine Zt ?_ | refine Zu ?_
        exact ret_vb hn.symm
      | true =>
        have b5 : (!nameS x0.call) = false := by rw [hnc]; rfl
        by_cases hcd : (x0.code.length : Int) ≠ 0
        · have b6 : decide ((x0.code.length : Int) ≠ 0) = true := decide_eq_true hcd
          have hn : eqS x0 = false := by rw [eqS_tail hnm, if_neg hbad, if_neg hcall, hnc, b6]; rfl
          repeat' first
            | refine Z1 ?_ | refine Z2 ?_ | refine Z3 ?_ | refine Z4 ?_ | refine Z5 ?_ | refine Z6 ?_ | refine Z7 ?_ | refine Z8 ?_ | refine Z9 ?_ | refine Za (fun hc => ?_) (fun hc => ?_) | refine Zb (fun hc => ?_) (fun hc => ?_)
            | refine Zc (sname_ok _) ?_ | refine Zd ?_ | refine Ze ?_ | refine Zf ?_ | refine Zg ?_ | refine Zh ?_ | refine Zi ?_ | refine Zj ?_ | refine Zk ?_ | refine Zl ?_ | refine Zm ?_ | refine Zn (fun hc => ?_) (fun hc => ?_)
            | refine Zo ?_ | refine ok_seq ?_ | refine ok_reg ?_ | refine Zp ?_ | refine Zq ?_ | refine Zr (fun hc => ?_) (fun hc => ?_) | refine ok_block ?_ | refine ok_exit ?_ | refine ok_skip ?_ | refine ok_ret ?_
            | refine x_normal_then ?_ | refine x_exit_here ?_ | refine Zs ?_ | refine Zv ?_ | refine x_ret_then ?_ | refine x_ret_block ?_ | refine x_normal_block ?_ | refine Zt ?_ | refine Zu ?_
          exact ret_vb hn.symm
        · have b6 : decide ((x0.code.length : Int) ≠ 0) = false := decide_eq_false hcd
          have hn : eqS x0 = x0.args.all oneS := by rw [eqS_tail hnm, if_neg hbad, if_neg hcall, hnc, b6]; rfl
          have hal := hw4
          repeat' first
            | refine Z1 ?_ | refine Z2 ?_ | refine Z3 ?_ | refine Z4 ?_ | refine Z5 ?_ | refine Z6 ?_ | refine Z7 ?_ | refine Z8 ?_ | refine Z9 ?_ | refine Za (fun hc => ?_) (fun hc => ?_) | refine Zb (fun hc => ?_) (fun hc => ?_)
            | refine Zc (sname_ok _) ?_ | refine Zd ?_ | refine Ze ?_ | refine Zf ?_ | refine Zg ?_ | refine Zh ?_ | refine Zi ?_ | refine Zj ?_ | refine Zk ?_ | refine Zl ?_ | refine Zm ?_ | refine Zn (fun hc => ?_) (fun hc => ?_)
            | refine Zo ?_ | refine ok_seq ?_ | refine ok_reg ?_ | refine Zp ?_ | refine Zq ?_ | refine Zr (fun hc => ?_) (fun hc => ?_) | refine ok_block ?_ | refine ok_exit ?_ | refine ok_skip ?_ | refine ok_ret ?_
            | refine x_normal_then ?_ | refine x_exit_here ?_ | refine Zs ?_ | refine Zv ?_ | refine x_ret_then ?_ | refine x_ret_block ?_ | refine x_normal_block ?_ | refine Zt ?_ | refine Zu ?_
          refine ok_for (ι := Nat) (fun x => envL [(2, vb false), (65, .d (.im (x0.args.map eItms))), (66, vi x0.args.length), (67, vi x)]) (fun x => stL [none]) (fun x => x ≤ x0.args.length ∧ (x0.args.drop x).all oneS = eqS x0) (fun x => x0.args.length - x) 0 (⟨Nat.zero_le _, by rw [List.drop_zero]; exact hn.symm⟩) (weak_mk rfl ⟨.refl _, .refl _, .refl _, .refl _, trivial⟩ trivial) (fun _ => Nat.le_refl _) ?_
          rintro k ⟨i1, i2⟩
          rcases hx : (x0.args)[k]? with _ | c
          · have hle := none_le hx
            have ek : decide ((k : Int) < (x0.args.length : Int)) = false := decide_eq_false (by omega)
            rw [drop_none hx] at i2
            repeat' first
              | refine Z1 ?_ | refine Z2 ?_ | refine Z3 ?_ | refine Z4 ?_ | refine Z5 ?_ | refine Z6 ?_ | refine Z7 ?_ | refine Z8 ?_ | refine Z9 ?_ | refine Za (fun hc => ?_) (fun hc => ?_) | refine Zb (fun hc => ?_) (fun hc => ?_)
              | refine Zd ?_ | refine Ze ?_ | refine Zf ?_ | refine Zg ?_ | refine Zh ?_ | refine Zi ?_ | refine Zj ?_ | refine Zk ?_ | refine Zl ?_ | refine Zm ?_ | refine Zn (fun hc => ?_) (fun hc => ?_) | refine Zo ?_ | refine ok_seq ?_
              | refine ok_reg ?_ | refine Zp ?_ | refine Zq ?_ | refine Zr (fun hc => ?_) (fun hc => ?_) | refine ok_block ?_ | refine ok_exit ?_ | refine ok_skip ?_ | refine ok_ret ?_ | refine x_normal_then ?_ | refine x_exit_here ?_
              | refine Zs ?_ | refine Zv ?_ | refine x_ret_then ?_ | refine x_ret_block ?_ | refine x_normal_block ?_ | refine Zt ?_ | refine Zu ?_
            exact ret_vb i2
          · obtain ⟨hd, hlt⟩ := drop_some hx
            have ek : decide ((k : Int) < (x0.args.length : Int)) = true := decide_eq_true (by omega)
            have hc := hal c (List.mem_of_getElem? hx)
            rw [hd, List.all_cons] at i2
            cases hco : codeS c 3000 with
            | false =>
              have ex : (!codeS c 3000) = true := by rw [hco]; rfl
              repeat' first
                | refine Z1 ?_ | refine Z2 ?_ | refine Z3 ?_ | refine Z4 ?_ | refine Z5 ?_ | refine Z6 ?_ | refine Z7 ?_ | refine Z8 ?_ | refine Z9 ?_ | refine Za (fun hc => ?_) (fun hc => ?_) | refine Zb (fun hc => ?_) (fun hc => ?_)
                | refine Zc (scode_ok c 3000 hc) ?_ | refine Zd ?_ | refine Ze ?_ | refine Zf ?_ | refine Zg ?_ | refine Zh ?_ | refine Zi ?_ | refine Zj ?_ | refine Zk ?_ | refine Zl ?_ | refine Zm ?_
                | refine Zn (fun hc => ?_) (fun hc => ?_) | refine Zo ?_ | refine ok_seq ?_ | refine ok_reg ?_ | refine Zp ?_ | refine Zq ?_ | refine Zr (fun hc => ?_) (fun hc => ?_) | refine ok_block ?_ | refine ok_exit ?_
                | refine ok_skip ?_ | refine ok_ret ?_ | refine x_normal_then ?_ | refine x_exit_here ?_ | refine Zs ?_ | refine Zv ?_ | refine x_ret_then ?_ | refine x_ret_block ?_ | refine x_normal_block ?_ | refine Zt ?_ | refine Zu ?_
              exact ret_vb (by rw [← i2]; simp [oneS, hco])
            | true =>
              have ex : (!codeS c 3000) = false := by rw [hco]; rfl
              repeat' first
                | refine Z1 ?_ | refine Z2 ?_ | refine Z3 ?_ | refine Z4 ?_ | refine Z5 ?_ | refine Z6 ?_ | refine Z7 ?_ | refine Z8 ?_ | refine Z9 ?_ | refine Za (fun hc => ?_) (fun hc => ?_) | refine Zb (fun hc => ?_) (fun hc => ?_)
                | refine Zc (scode_ok c 3000 hc) ?_ | refine Zd ?_ | refine Ze ?_ | refine Zf ?_ | refine Zg ?_ | refine Zh ?_ | refine Zi ?_ | refine Zj ?_ | refine Zk ?_ | refine Zl ?_ | refine Zm ?_
                | refine Zn (fun hc => ?_) (fun hc => ?_) | refine Zo ?_ | refine ok_seq ?_ | refine ok_reg ?_ | refine Zp ?_ | refine Zq ?_ | refine Zr (fun hc => ?_) (fun hc => ?_) | refine ok_block ?_ | refine ok_exit ?_
                | refine ok_skip ?_ | refine ok_ret ?_ | refine x_normal_then ?_ | refine x_exit_here ?_ | refine Zs ?_ | refine Zv ?_ | refine x_ret_then ?_ | refine x_ret_block ?_ | refine x_normal_block ?_ | refine Zt ?_ | refine Zu ?_
              refine ok_for (ι := Nat) (fun x => envL [(2, vb false), (65, .d (.im (x0.args.map eItms))), (66, vi x0.args.length), (67, vi k), (74, .d (.im (c.map eItm))), (75, vi c.length), (76, vi x)]) (fun x => stL [none]) (fun x => x ≤ c.length ∧ ((c.drop x).all (fun t => !decide (t.op = 25)) && (x0.args.drop (k + 1)).all oneS) = eqS x0) (fun x => c.length - x) 0 (⟨Nat.zero_le _, by rw [← i2]; simp [oneS, hco]⟩) (weak_mk rfl ⟨.refl _, .refl _, .refl _, .refl _, .refl _, .refl _, .refl _, trivial⟩ trivial) (fun _ => Nat.le_refl _) ?_
              rintro q ⟨j1, j2⟩
              rcases hy : c[q]? with _ | t
              · have hle := none_le hy
                have eq : decide ((q : Int) < (c.length : Int)) = false := decide_eq_false (by omega)
                rw [drop_none hy, List.all_nil, Bool.true_and] at j2
                repeat' first
                  | refine Z1 ?_ | refine Z2 ?_ | refine Z3 ?_ | refine Z4 ?_ | refine Z5 ?_ | refine Z6 ?_ | refine Z7 ?_ | refine Z8 ?_ | refine Z9 ?_ | refine Za (fun hc => ?_) (fun hc => ?_) | refine Zb (fun hc => ?_) (fun hc => ?_)
                  | refine Zd ?_ | refine Ze ?_ | refine Zf ?_ | refine Zg ?_ | refine Zh ?_ | refine Zi ?_ | refine Zj ?_ | refine Zk ?_ | refine Zl ?_ | refine Zm ?_ | refine Zn (fun hc => ?_) (fun hc => ?_) | refine Zo ?_
                  | refine ok_seq ?_ | refine ok_reg ?_ | refine Zp ?_ | refine Zq ?_ | refine Zr (fun hc => ?_) (fun hc => ?_) | refine ok_block ?_ | refine ok_exit ?_ | refine ok_skip ?_ | refine ok_ret ?_ | refine x_normal_then ?_
                  | refine x_exit_here ?_ | refine Zs ?_ | refine Zv ?_ | refine x_ret_then ?_ | refine x_ret_block ?_ | refine x_normal_block ?_ | refine Zt ?_ | refine Zu ?_
                exact ⟨k + 1, ⟨hlt, j2⟩, by (try simp only); omega, low_mk (Nat.le_of_ble_eq_true rfl) ⟨⟨rfl, rfl⟩, ⟨rfl, rfl⟩, ⟨rfl, rfl⟩, ⟨rfl, rfl⟩, trivial⟩ trivial⟩
              · obtain ⟨hd2, hlt2⟩ := drop_some hy
                have eq : decide ((q : Int) < (c.length : Int)) = true := decide_eq_true (by omega)
                rw [hd2, List.all_cons] at j2
                cases ht : decide (t.op = 25) with
                | true =>
                  repeat' first
                    | refine Z1 ?_ | refine Z2 ?_ | refine Z3 ?_ | refine Z4 ?_ | refine Z5 ?_ | refine Z6 ?_ | refine Z7 ?_ | refine Z8 ?_ | refine Z9 ?_ | refine Za (fun hc => ?_) (fun hc => ?_) | refine Zb (fun hc => ?_) (fun hc => ?_)
                    | refine Zd ?_ | refine Ze ?_ | refine Zf ?_ | refine Zg ?_ | refine Zh ?_ | refine Zi ?_ | refine Zj ?_ | refine Zk ?_ | refine Zl ?_ | refine Zm ?_ | refine Zn (fun hc => ?_) (fun hc => ?_) | refine Zo ?_
                    | refine ok_seq ?_ | refine ok_reg ?_ | refine Zp ?_ | refine Zq ?_ | refine Zr (fun hc => ?_) (fun hc => ?_) | refine ok_block ?_ | refine ok_exit ?_ | refine ok_skip ?_ | refine ok_ret ?_ | refine x_normal_then ?_
                    | refine x_exit_here ?_ | refine Zs ?_ | refine Zv ?_ | refine x_ret_then ?_ | refine x_ret_block ?_ | refine x_normal_block ?_ | refine Zt ?_ | refine Zu ?_
                  exact ret_vb (by rw [← j2, ht]; rfl)
                | false =>
                  repeat' first
                    | refine Z1 ?_ | refine Z2 ?_ | refine Z3 ?_ | refine Z4 ?_ | refine Z5 ?_ | refine Z6 ?_ | refine Z7 ?_ | refine Z8 ?_ | refine Z9 ?_ | refine Za (fun hc => ?_) (fun hc => ?_) | refine Zb (fun hc => ?_) (fun hc => ?_)
                    | refine Zd ?_ | refine Ze ?_ | refine Zf ?_ | refine Zg ?_ | refine Zh ?_ | refine Zi ?_ | refine Zj ?_ | refine Zk ?_ | refine Zl ?_ | refine Zm ?_ | refine Zn (fun hc => ?_) (fun hc => ?_) | refine Zo ?_
                    | refine ok_seq ?_ | refine ok_reg ?_ | refine Zp ?_ | refine Zq ?_ | refine Zr (fun hc => ?_) (fun hc => ?_) | refine ok_block ?_ | refine ok_exit ?_ | refine ok_skip ?_ | refine ok_ret ?_ | refine x_normal_then ?_
                    | refine x_exit_here ?_ | refine Zs ?_ | refine Zv ?_ | refine x_ret_then ?_ | refine x_ret_block ?_ | refine x_normal_block ?_ | refine Zt ?_ | refine Zu ?_
                  rw [ht, Bool.not_false, Bool.true_and] at j2
                  exact ⟨q + 1, ⟨hlt2, j2⟩, by (try simp only); omega, low_mk (Nat.le_of_ble_eq_true rfl) ⟨⟨rfl, rfl⟩, ⟨rfl, rfl⟩, ⟨rfl, rfl⟩, ⟨rfl, rfl⟩, ⟨rfl, rfl⟩, ⟨rfl, rfl⟩, ⟨rfl, rfl⟩, trivial⟩ trivial⟩
  · obtain ⟨hd, hlt⟩ := drop_some hx
    have ek : decide ((k : Int) < (x0.lhs.length : Int)) = true := decide_eq_true (by omega)
    rw [hd, List.all_cons] at i2 i3
    cases hs : nameS s with
    | false =>
      have es : (!nameS s) = true := by rw [hs]; rfl
      have hn : eqS x0 = false := by unfold eqS; rw [i3 (by rw [hs]; rfl)]; rfl
      repeat' first
        | refine Z1 ?_ | refine Z2 ?_ | refine Z3 ?_ | refine Z4 ?_ | refine Z5 ?_ | refine Z6 ?_ | refine Z7 ?_ | refine Z8 ?_ | refine Z9 ?_ | refine Za (fun hc => ?_) (fun hc => ?_) | refine Zb (fun hc => ?_) (fun hc => ?_)
        | refine Zc (sname_ok s) ?_ | refine Zd ?_ | refine Ze ?_ | refine Zf ?_ | refine Zg ?_ | refine Zh ?_ | refine Zi ?_ | refine Zj ?_ | refine Zk ?_ | refine Zl ?_ | refine Zm ?_ | refine Zn (fun hc => ?_) (fun hc => ?_)
        | refine Zo ?_ | refine ok_seq ?_ | refine ok_reg ?_ | refine Zp ?_ | refine Zq ?_ | refine Zr (fun hc => ?_) (fun hc => ?_) | refine ok_block ?_ | refine ok_exit ?_ | refine ok_skip ?_ | refine ok_ret ?_ | refine x_normal_then ?_
        | refine x_exit_here ?_ | refine Zs ?_ | refine Zv ?_ | refine x_ret_then ?_ | refine x_ret_block ?_ | refine x_normal_block ?_ | refine Zt ?_ | refine Zu ?_
      exact ret_vb hn.symm
    | true =>
      have es : (!nameS s) = false := by rw [hs]; rfl
      repeat' first
        | refine Z1 ?_ | refine Z2 ?_ | refine Z3 ?_ | refine Z4 ?_ | refine Z5 ?_ | refine Z6 ?_ | refine Z7 ?_ | refine Z8 ?_ | refine Z9 ?_ | refine Za (fun hc => ?_) (fun hc => ?_) | refine Zb (fun hc => ?_) (fun hc => ?_)
        | refine Zc (sname_ok s) ?_ | refine Zd ?_ | refine Ze ?_ | refine Zf ?_ | refine Zg ?_ | refine Zh ?_ | refine Zi ?_ | refine Zj ?_ | refine Zk ?_ | refine Zl ?_ | refine Zm ?_ | refine Zn (fun hc => ?_) (fun hc => ?_)
        | refine Zo ?_ | refine ok_seq ?_ | refine ok_reg ?_ | refine Zp ?_ | refine Zq ?_ | refine Zr (fun hc => ?_) (fun hc => ?_) | refine ok_block ?_ | refine ok_exit ?_ | refine ok_skip ?_ | refine ok_ret ?_ | refine x_normal_then ?_
        | refine x_exit_here ?_ | refine Zs ?_ | refine Zv ?_ | refine x_ret_then ?_ | refine x_ret_block ?_ | refine x_normal_block ?_ | refine Zt ?_ | refine Zu ?_
      rw [hs, Bool.true_and] at i2 i3
      exact ⟨k + 1, ⟨hlt, i2, i3⟩, by (try simp only); omega, low_mk (Nat.le_of_ble_eq_true rfl) ⟨⟨rfl, rfl⟩, ⟨rfl, rfl⟩, ⟨rfl, rfl⟩, ⟨rfl, rfl⟩, ⟨rfl, rfl⟩, trivial⟩ ⟨⟨rfl, rfl⟩, trivial⟩⟩
end Go.Pm
