import Derived.Test.YtghgkmifoiokjaaDoorSp3
set_option linter.unusedVariables false
set_option linter.unusedSimpArgs false
namespace Go.Pm
attribute [local irreducible] AR Ok inBlock andThen endQ aoper
set_option maxHeartbeats 1000000
open Go.Proofs
def vS (m : Nat) (k : Nat) (v : Vr) : Bool :=
  if (!nameS v.name) = true ∨ v.type < 1 ∨ 2 < v.type ∨ 8 < (v.clock.length : Int) then false
  else if (k : Int) < m ∧ 0 < (v.clock.length : Int) then false else v.clock.all fun c => nameS c.name
def vsS (m : Nat) : Nat → List Vr → Bool
  | _, [] => true
  | k, v :: l => vS m k v && vsS m (k + 1) l
def nodS (x : Nod) : Bool :=
  if (!nameS x.name) = true ∨ (x.outs.length : Int) < 1 ∨ 500 < ((varsS x).length : Int) ∨ (x.eqs.length : Int) < 1 ∨ 500 < (x.eqs.length : Int) then false
  else vsS (x.ins.length + x.outs.length) 0 (varsS x) && x.eqs.all eqS
def shapeS (p : List Nod) : Bool := if (p.length : Int) < 1 ∨ 200 < (p.length : Int) then false else p.all nodS
set_option maxHeartbeats 4000000 in
theorem sshape_ok (p : List Nod) (hw : wL wNod p ≤ 1048576) : PFun X 6 [.agg [.d (.im (p.map eNod))]] (vb (shapeS p)) := by
  have hpl : p.length ≤ 1048576 := by simp only [wL] at hw; omega
  refine pfun_of Tryd.func6 rfl (by decide) Tryd.ntmps6 Tryd.results6 (by simp) rfl rfl ?_
  by_cases hbad : (p.length : Int) < 1 ∨ 200 < (p.length : Int)
  · have hn : shapeS p = false := by simp only [shapeS, hbad, if_true]
    repeat' first
      | refine Z1 ?_ | refine Z2 ?_ | refine Z3 ?_ | refine Z4 ?_ | refine Z5 ?_ | refine Z6 ?_ | refine Z7 ?_ | refine Z8 ?_ | refine Z9 ?_ | refine Za (fun hc => ?_) (fun hc => ?_) | refine Zb (fun hc => ?_) (fun hc => ?_) | refine Zd ?_
      | refine Ze ?_ | refine Zf ?_ | refine Zg ?_ | refine Zh ?_ | refine Zi ?_ | refine Zj ?_ | refine Zk ?_ | refine Zl ?_ | refine Zm ?_ | refine Zn (fun hc => ?_) (fun hc => ?_) | refine Zo ?_ | refine ok_seq ?_ | refine ok_reg ?_
      | refine Zp ?_ | refine Zq ?_ | refine Zr (fun hc => ?_) (fun hc => ?_) | refine ok_block ?_ | refine ok_exit ?_ | refine ok_skip ?_ | refine ok_ret ?_ | refine x_normal_then ?_ | refine x_exit_here ?_ | refine Zs ?_ | refine Zv ?_
      | refine x_ret_then ?_ | refine x_ret_block ?_ | refine x_normal_block ?_ | refine Zt ?_ | refine Zu ?_
    all_goals simp only [decide_eq_true_eq, decide_eq_false_iff_not, Bool.not_eq_true, Bool.not_eq_false, Bool.not_eq_eq_eq_not, Bool.not_true, Bool.not_false] at *
    all_goals first
      | exact ret_vb hn.symm
      | (exfalso; omega)
  have a1 : decide ((p.length : Int) < 1) = false := decide_eq_false (by omega)
  have a2 : decide (200 < (p.length : Int)) = false := decide_eq_false (by omega)
  have hn : shapeS p = p.all nodS := by simp only [shapeS, hbad, if_false]
  repeat' first
    | refine Z1 ?_ | refine Z2 ?_ | refine Z3 ?_ | refine Z4 ?_ | refine Z5 ?_ | refine Z6 ?_ | refine Z7 ?_ | refine Z8 ?_ | refine Z9 ?_ | refine Za (fun hc => ?_) (fun hc => ?_) | refine Zb (fun hc => ?_) (fun hc => ?_) | refine Zd ?_
    | refine Ze ?_ | refine Zf ?_ | refine Zg ?_ | refine Zh ?_ | refine Zi ?_ | refine Zj ?_ | refine Zk ?_ | refine Zl ?_ | refine Zm ?_ | refine Zn (fun hc => ?_) (fun hc => ?_) | refine Zo ?_ | refine ok_seq ?_ | refine ok_reg ?_
    | refine Zp ?_ | refine Zq ?_ | refine Zr (fun hc => ?_) (fun hc => ?_) | refine ok_block ?_ | refine ok_exit ?_ | refine ok_skip ?_ | refine ok_ret ?_ | refine x_normal_then ?_ | refine x_exit_here ?_ | refine Zs ?_ | refine Zv ?_
    | refine x_ret_then ?_ | refine x_ret_block ?_ | refine x_normal_block ?_ | refine Zt ?_ | refine Zu ?_
  refine ok_for (ι := Nat) (fun x => envL [(2, vb false), (23, .d (.im (p.map eNod))), (24, vi p.length), (25, vi x)]) (fun x => stL [none]) (fun x => x ≤ p.length ∧ (p.drop x).all nodS = shapeS p) (fun x => p.length - x) 0 (⟨Nat.zero_le _, hn.symm⟩) (weak_mk rfl ⟨.refl _, .refl _, .refl _, .refl _, trivial⟩ trivial) (fun _ => Nat.le_refl _) ?_
  rintro k ⟨i1, i2⟩
  rcases hx : p[k]? with _ | x
  · have hle := none_le hx
    have ek : decide ((k : Int) < (p.length : Int)) = false := decide_eq_false (by omega)
    rw [drop_none hx] at i2
    repeat' first
      | refine Z1 ?_ | refine Z2 ?_ | refine Z3 ?_ | refine Z4 ?_ | refine Z5 ?_ | refine Z6 ?_ | refine Z7 ?_ | refine Z8 ?_ | refine Z9 ?_ | refine Za (fun hc => ?_) (fun hc => ?_) | refine Zb (fun hc => ?_) (fun hc => ?_) | refine Zd ?_
      | refine Ze ?_ | refine Zf ?_ | refine Zg ?_ | refine Zh ?_ | refine Zi ?_ | refine Zj ?_ | refine Zk ?_ | refine Zl ?_ | refine Zm ?_ | refine Zn (fun hc => ?_) (fun hc => ?_) | refine Zo ?_ | refine ok_seq ?_ | refine ok_reg ?_
      | refine Zp ?_ | refine Zq ?_ | refine Zr (fun hc => ?_) (fun hc => ?_) | refine ok_block ?_ | refine ok_exit ?_ | refine ok_skip ?_ | refine ok_ret ?_ | refine x_normal_then ?_ | refine x_exit_here ?_ | refine Zs ?_ | refine Zv ?_
      | refine x_ret_then ?_ | refine x_ret_block ?_ | refine x_normal_block ?_ | refine Zt ?_ | refine Zu ?_
    exact ret_vb i2
  obtain ⟨hd, hlt⟩ := drop_some hx
  have ek : decide ((k : Int) < (p.length : Int)) = true := decide_eq_true (by omega)
  have hwx := wL_mem (w := wNod) (List.mem_of_getElem? hx)
  have hwx1 : wNod x ≤ 1048576 := by simp only [wL] at hw; omega
  have hwx2 := hwx1
  simp only [wNod, wL] at hwx2
  rw [hd, List.all_cons] at i2
  by_cases hhd : (!nameS x.name) = true ∨ (x.outs.length : Int) < 1 ∨ 500 < ((varsS x).length : Int) ∨ (x.eqs.length : Int) < 1 ∨ 500 < (x.eqs.length : Int)
  · have hnx : nodS x = false := by simp only [nodS, hhd, if_true]
    have hres : false = shapeS p := by rw [← i2, hnx]; rfl
    repeat' first
      | refine Z1 ?_ | refine Z2 ?_ | refine Z3 ?_ | refine Z4 ?_ | refine Z5 ?_ | refine Z6 ?_ | refine Z7 ?_ | refine Z8 ?_ | refine Z9 ?_ | refine Za (fun hc => ?_) (fun hc => ?_) | refine Zb (fun hc => ?_) (fun hc => ?_)
      | refine Zc (svars_ok x hwx1) ?_ | refine Zc (sname_ok _) ?_ | refine Zd ?_ | refine Ze ?_ | refine Zf ?_ | refine Zg ?_ | refine Zh ?_ | refine Zi ?_ | refine Zj ?_ | refine Zk ?_ | refine Zl ?_ | refine Zm ?_
      | refine Zn (fun hc => ?_) (fun hc => ?_) | refine Zo ?_ | refine ok_seq ?_ | refine ok_reg ?_ | refine Zp ?_ | refine Zq ?_ | refine Zr (fun hc => ?_) (fun hc => ?_) | refine ok_block ?_ | refine ok_exit ?_ | refine ok_skip ?_
      | refine ok_ret ?_ | refine x_normal_then ?_ | refine x_exit_here ?_ | refine Zs ?_ | refine Zv ?_ | refine x_ret_then ?_ | refine x_ret_block ?_ | refine x_normal_block ?_ | refine Zt ?_ | refine Zu ?_
    all_goals simp only [decide_eq_true_eq, decide_eq_false_iff_not, Bool.not_eq_true, Bool.not_eq_false, Bool.not_eq_eq_eq_not, Bool.not_true, Bool.not_false] at *
    all_goals first
      | exact ret_vb hres
      | (exfalso; simp_all; done)
      | (exfalso; simp_all; omega)
  have b1 : (!nameS x.name) = false := by cases hq : (!nameS x.name) with | false => rfl | true => exact absurd (.inl hq) hhd
  have b2 : decide ((x.outs.length : Int) < 1) = false := decide_eq_false (fun h => hhd (.inr (.inl h)))
  have b3 : decide (500 < ((varsS x).length : Int)) = false := decide_eq_false (fun h => hhd (.inr (.inr (.inl h))))
  have b4 : decide ((x.eqs.length : Int) < 1) = false := decide_eq_false (fun h => hhd (.inr (.inr (.inr (.inl h)))))
  have b5 : decide (500 < (x.eqs.length : Int)) = false := decide_eq_false (fun h => hhd (.inr (.inr (.inr (.inr h)))))
  have hnx : nodS x = (vsS (x.ins.length + x.outs.length) 0 (varsS x) && x.eqs.all eqS) := by simp only [nodS, hhd, if_false]
  have hvl : (varsS x).length ≤ 500 := by have := of_decide_eq_false b3; omega
  rw [hnx] at i2
  repeat' first
    | refine Z1 ?_ | refine Z2 ?_ | refine Z3 ?_ | refine Z4 ?_ | refine Z5 ?_ | refine Z6 ?_ | refine Z7 ?_ | refine Z8 ?_ | refine Z9 ?_ | refine Za (fun hc => ?_) (fun hc => ?_) | refine Zb (fun hc => ?_) (fun hc => ?_)
    | refine Zc (svars_ok x hwx1) ?_ | refine Zc (sname_ok _) ?_ | refine Zd ?_ | refine Ze ?_ | refine Zf ?_ | refine Zg ?_ | refine Zh ?_ | refine Zi ?_ | refine Zj ?_ | refine Zk ?_ | refine Zl ?_ | refine Zm ?_
    | refine Zn (fun hc => ?_) (fun hc => ?_) | refine Zo ?_ | refine ok_seq ?_ | refine ok_reg ?_ | refine Zp ?_ | refine Zq ?_ | refine Zr (fun hc => ?_) (fun hc => ?_) | refine ok_block ?_ | refine ok_exit ?_ | refine ok_skip ?_
    | refine ok_ret ?_ | refine x_normal_then ?_ | refine x_exit_here ?_ | refine Zs ?_ | refine Zv ?_ | refine x_ret_then ?_ | refine x_ret_block ?_ | refine x_normal_block ?_ | refine Zt ?_ | refine Zu ?_
  refine ok_for (ι := Nat) (fun x_ => envL [(2, vb false), (23, .d (.im (p.map eNod))), (24, vi p.length), (25, vi k), (4, .ref 1 0), (58, .d (.im ((varsS x).map eVr))), (59, vi (varsS x).length), (60, vi x_)]) (fun x_ => stL [none, some (.var ((eNod x).map .d))]) (fun x_ => x_ ≤ (varsS x).length ∧ ((vsS (x.ins.length + x.outs.length) x_ ((varsS x).drop x_) && x.eqs.all eqS) && (p.drop (k + 1)).all nodS) = shapeS p) (fun x_ => (varsS x).length - x_) 0 (⟨Nat.zero_le _, i2⟩) (weak_mk rfl ⟨.refl _, .refl _, .refl _, .refl _, .refl _, .refl _, .refl _, .refl _, trivial⟩ ⟨⟨rfl, _, rfl, rfl, fun _ _ _ => .refl _⟩, trivial⟩) (fun _ => Nat.le_refl _) ?_
  rintro q ⟨j1, j2⟩
  rcases hy : (varsS x)[q]? with _ | v
  · have hle := none_le hy
    have eq : decide ((q : Int) < ((varsS x).length : Int)) = false := decide_eq_false (by omega)
    rw [drop_none hy] at j2
    simp only [vsS, Bool.true_and] at j2
    repeat' first
      | refine Z1 ?_ | refine Z2 ?_ | refine Z3 ?_ | refine Z4 ?_ | refine Z5 ?_ | refine Z6 ?_ | refine Z7 ?_ | refine Z8 ?_ | refine Z9 ?_ | refine Za (fun hc => ?_) (fun hc => ?_) | refine Zb (fun hc => ?_) (fun hc => ?_) | refine Zd ?_
      | refine Ze ?_ | refine Zf ?_ | refine Zg ?_ | refine Zh ?_ | refine Zi ?_ | refine Zj ?_ | refine Zk ?_ | refine Zl ?_ | refine Zm ?_ | refine Zn (fun hc => ?_) (fun hc => ?_) | refine Zo ?_ | refine ok_seq ?_ | refine ok_reg ?_
      | refine Zp ?_ | refine Zq ?_ | refine Zr (fun hc => ?_) (fun hc => ?_) | refine ok_block ?_ | refine ok_exit ?_ | refine ok_skip ?_ | refine ok_ret ?_ | refine x_normal_then ?_ | refine x_exit_here ?_ | refine Zs ?_ | refine Zv ?_
      | refine x_ret_then ?_ | refine x_ret_block ?_ | refine x_normal_block ?_ | refine Zt ?_ | refine Zu ?_
    refine ok_for (ι := Nat) (fun x_ => envL [(2, vb false), (23, .d (.im (p.map eNod))), (24, vi p.length), (25, vi k), (114, .d (.im (x.eqs.map eEqn))), (115, vi x.eqs.length), (116, vi x_)]) (fun x_ => stL [none, none]) (fun x_ => x_ ≤ x.eqs.length ∧ ((x.eqs.drop x_).all eqS && (p.drop (k + 1)).all nodS) = shapeS p) (fun x_ => x.eqs.length - x_) 0 (⟨Nat.zero_le _, j2⟩) (weak_mk rfl ⟨.refl _, .refl _, .refl _, .refl _, .refl _, .refl _, .refl _, trivial⟩ trivial) (fun _ => Nat.le_refl _) ?_
    rintro r ⟨l1, l2⟩
    rcases hz : x.eqs[r]? with _ | e
    · have hle := none_le hz
      have er : decide ((r : Int) < (x.eqs.length : Int)) = false := decide_eq_false (by omega)
      rw [drop_none hz, List.all_nil, Bool.true_and] at l2
      repeat' first
        | refine Z1 ?_ | refine Z2 ?_ | refine Z3 ?_ | refine Z4 ?_ | refine Z5 ?_ | refine Z6 ?_ | refine Z7 ?_ | refine Z8 ?_ | refine Z9 ?_ | refine Za (fun hc => ?_) (fun hc => ?_) | refine Zb (fun hc => ?_) (fun hc => ?_)
        | refine Zd ?_ | refine Ze ?_ | refine Zf ?_ | refine Zg ?_ | refine Zh ?_ | refine Zi ?_ | refine Zj ?_ | refine Zk ?_ | refine Zl ?_ | refine Zm ?_ | refine Zn (fun hc => ?_) (fun hc => ?_) | refine Zo ?_ | refine ok_seq ?_
        | refine ok_reg ?_ | refine Zp ?_ | refine Zq ?_ | refine Zr (fun hc => ?_) (fun hc => ?_) | refine ok_block ?_ | refine ok_exit ?_ | refine ok_skip ?_ | refine ok_ret ?_ | refine x_normal_then ?_ | refine x_exit_here ?_
        | refine Zs ?_ | refine Zv ?_ | refine x_ret_then ?_ | refine x_ret_block ?_ | refine x_normal_block ?_ | refine Zt ?_ | refine Zu ?_
      exact ⟨k + 1, ⟨hlt, l2⟩, by (try simp only); omega, low_mk (Nat.le_of_ble_eq_true rfl) ⟨⟨rfl, rfl⟩, ⟨rfl, rfl⟩, ⟨rfl, rfl⟩, ⟨rfl, rfl⟩, trivial⟩ trivial⟩
    · obtain ⟨hd3, hlt3⟩ := drop_some hz
      have er : decide ((r : Int) < (x.eqs.length : Int)) = true := decide_eq_true (by omega)
      have hwe := wL_mem (w := wEqn) (List.mem_of_getElem? hz)
      rw [hd3, List.all_cons] at l2
      cases he : eqS e with
      | false =>
        have ex : (!eqS e) = true := by rw [he]; rfl
        repeat' first
          | refine Z1 ?_ | refine Z2 ?_ | refine Z3 ?_ | refine Z4 ?_ | refine Z5 ?_ | refine Z6 ?_ | refine Z7 ?_ | refine Z8 ?_ | refine Z9 ?_ | refine Za (fun hc => ?_) (fun hc => ?_) | refine Zb (fun hc => ?_) (fun hc => ?_)
          | refine Zc (seq_ok e (by omega)) ?_ | refine Zd ?_ | refine Ze ?_ | refine Zf ?_ | refine Zg ?_ | refine Zh ?_ | refine Zi ?_ | refine Zj ?_ | refine Zk ?_ | refine Zl ?_ | refine Zm ?_ | refine Zn (fun hc => ?_) (fun hc => ?_)
          | refine Zo ?_ | refine ok_seq ?_ | refine ok_reg ?_ | refine Zp ?_ | refine Zq ?_ | refine Zr (fun hc => ?_) (fun hc => ?_) | refine ok_block ?_ | refine ok_exit ?_ | refine ok_skip ?_ | refine ok_ret ?_ | refine x_normal_then ?_
          | refine x_exit_here ?_ | refine Zs ?_ | refine Zv ?_ | refine x_ret_then ?_ | refine x_ret_block ?_ | refine x_normal_block ?_ | refine Zt ?_ | refine Zu ?_
        exact ret_vb (by rw [← l2, he]; rfl)
      | true =>
        have ex : (!eqS e) = false := by rw [he]; rfl
        repeat' first
          | refine Z1 ?_ | refine Z2 ?_ | refine Z3 ?_ | refine Z4 ?_ | refine Z5 ?_ | refine Z6 ?_ | refine Z7 ?_ | refine Z8 ?_ | refine Z9 ?_ | refine Za (fun hc => ?_) (fun hc => ?_) | refine Zb (fun hc => ?_) (fun hc => ?_)
          | refine Zc (seq_ok e (by omega)) ?_ | refine Zd ?_ | refine Ze ?_ | refine Zf ?_ | refine Zg ?_ | refine Zh ?_ | refine Zi ?_ | refine Zj ?_ | refine Zk ?_ | refine Zl ?_ | refine Zm ?_ | refine Zn (fun hc => ?_) (fun hc => ?_)
          | refine Zo ?_ | refine ok_seq ?_ | refine ok_reg ?_ | refine Zp ?_ | refine Zq ?_ | refine Zr (fun hc => ?_) (fun hc => ?_) | refine ok_block ?_ | refine ok_exit ?_ | refine ok_skip ?_ | refine ok_ret ?_ | refine x_normal_then ?_
          | refine x_exit_here ?_ | refine Zs ?_ | refine Zv ?_ | refine x_ret_then ?_ | refine x_ret_block ?_ | refine x_normal_block ?_ | refine Zt ?_ | refine Zu ?_
        rw [he, Bool.true_and] at l2
        exact ⟨r + 1, ⟨hlt3, l2⟩, by (try simp only); omega, low_mk (Nat.le_of_ble_eq_true rfl) ⟨⟨rfl, rfl⟩, ⟨rfl, rfl⟩, ⟨rfl, rfl⟩, ⟨rfl, rfl⟩, ⟨rfl, rfl⟩, ⟨rfl, rfl⟩, ⟨rfl, rfl⟩, trivial⟩ trivial⟩
  obtain ⟨hd2, hlt2⟩ := drop_some hy
  have eq : decide ((q : Int) < ((varsS x).length : Int)) = true := decide_eq_true (by omega)
  rw [hd2] at j2
  simp only [vsS] at j2
  have hvw : wVr v ≤ 1048576 := by
    have hm : v ∈ x.ins ++ x.outs ++ x.vars := List.mem_of_getElem? hy
    simp only [List.mem_append] at hm
    rcases hm with (hm | hm) | hm
    · have := wL_mem (w := wVr) hm; omega
    · have := wL_mem (w := wVr) hm; omega
    · have := wL_mem (w := wVr) hm; omega
  simp only [wVr, wL] at hvw
  by_cases hvb : (!nameS v.name) = true ∨ v.type < 1 ∨ 2 < v.type ∨ 8 < (v.clock.length : Int)
  · have hres : false = shapeS p := by rw [← j2]; simp only [vS, hvb, if_true, Bool.false_and]
    repeat' first
      | refine Z1 ?_ | refine Z2 ?_ | refine Z3 ?_ | refine Z4 ?_ | refine Z5 ?_ | refine Z6 ?_ | refine Z7 ?_ | refine Z8 ?_ | refine Z9 ?_ | refine Za (fun hc => ?_) (fun hc => ?_) | refine Zb (fun hc => ?_) (fun hc => ?_)
      | refine Zc (sname_ok _) ?_ | refine Zd ?_ | refine Ze ?_ | refine Zf ?_ | refine Zg ?_ | refine Zh ?_ | refine Zi ?_ | refine Zj ?_ | refine Zk ?_ | refine Zl ?_ | refine Zm ?_ | refine Zn (fun hc => ?_) (fun hc => ?_) | refine Zo ?_
      | refine ok_seq ?_ | refine ok_reg ?_ | refine Zp ?_ | refine Zq ?_ | refine Zr (fun hc => ?_) (fun hc => ?_) | refine ok_block ?_ | refine ok_exit ?_ | refine ok_skip ?_ | refine ok_ret ?_ | refine x_normal_then ?_
      | refine x_exit_here ?_ | refine Zs ?_ | refine Zv ?_ | refine x_ret_then ?_ | refine x_ret_block ?_ | refine x_normal_block ?_ | refine Zt ?_ | refine Zu ?_
    all_goals simp only [decide_eq_true_eq, decide_eq_false_iff_not, Bool.not_eq_true, Bool.not_eq_false, Bool.not_eq_eq_eq_not, Bool.not_true, Bool.not_false] at *
    all_goals first
      | exact ret_vb hres
      | (exfalso; simp_all; done)
      | (exfalso; simp_all; omega)
  have c1 : (!nameS v.name) = false := by cases hq : (!nameS v.name) with | false => rfl | true => exact absurd (.inl hq) hvb
  have c2 : decide (v.type < 1) = false := decide_eq_false (fun h => hvb (.inr (.inl h)))
  have c3 : decide (2 < v.type) = false := decide_eq_false (fun h => hvb (.inr (.inr (.inl h))))
  have c4 : decide (8 < (v.clock.length : Int)) = false := decide_eq_false (fun h => hvb (.inr (.inr (.inr h))))
  by_cases hvc : (q : Int) < ((x.ins.length + x.outs.length : Nat) : Int) ∧ 0 < (v.clock.length : Int)
  · have hres : false = shapeS p := by rw [← j2]; simp only [vS, hvb, hvc, if_true, if_false, and_self, Bool.false_and]
    have c5 : decide ((q : Int) < (x.ins.length : Int) + (x.outs.length : Int)) = true := decide_eq_true (by omega)
    have c6 : decide (0 < (v.clock.length : Int)) = true := decide_eq_true (by omega)
    repeat' first
      | refine Z1 ?_ | refine Z2 ?_ | refine Z3 ?_ | refine Z4 ?_ | refine Z5 ?_ | refine Z6 ?_ | refine Z7 ?_ | refine Z8 ?_ | refine Z9 ?_ | refine Za (fun hc => ?_) (fun hc => ?_) | refine Zb (fun hc => ?_) (fun hc => ?_)
      | refine Zc (sname_ok _) ?_ | refine Zd ?_ | refine Ze ?_ | refine Zf ?_ | refine Zg ?_ | refine Zh ?_ | refine Zi ?_ | refine Zj ?_ | refine Zk ?_ | refine Zl ?_ | refine Zm ?_ | refine Zn (fun hc => ?_) (fun hc => ?_) | refine Zo ?_
      | refine ok_seq ?_ | refine ok_reg ?_ | refine Zp ?_ | refine Zq ?_ | refine Zr (fun hc => ?_) (fun hc => ?_) | refine ok_block ?_ | refine ok_exit ?_ | refine ok_skip ?_ | refine ok_ret ?_ | refine x_normal_then ?_
      | refine x_exit_here ?_ | refine Zs ?_ | refine Zv ?_ | refine x_ret_then ?_ | refine x_ret_block ?_ | refine x_normal_block ?_ | refine Zt ?_ | refine Zu ?_
    exact ret_vb hres
  have hvs : vS (x.ins.length + x.outs.length) q v = v.clock.all fun c => nameS c.name := by simp only [vS, hvb, hvc, if_false]
  rw [hvs] at j2
  by_cases hq5 : (q : Int) < (x.ins.length : Int) + (x.outs.length : Int)
  · have c5 : decide ((q : Int) < (x.ins.length : Int) + (x.outs.length : Int)) = true := decide_eq_true hq5
    have c6 : decide (0 < (v.clock.length : Int)) = false := decide_eq_false (by omega)
    repeat' first
      | refine Z1 ?_ | refine Z2 ?_ | refine Z3 ?_ | refine Z4 ?_ | refine Z5 ?_ | refine Z6 ?_ | refine Z7 ?_ | refine Z8 ?_ | refine Z9 ?_ | refine Za (fun hc => ?_) (fun hc => ?_) | refine Zb (fun hc => ?_) (fun hc => ?_)
      | refine Zc (sname_ok _) ?_ | refine Zd ?_ | refine Ze ?_ | refine Zf ?_ | refine Zg ?_ | refine Zh ?_ | refine Zi ?_ | refine Zj ?_ | refine Zk ?_ | refine Zl ?_ | refine Zm ?_ | refine Zn (fun hc => ?_) (fun hc => ?_) | refine Zo ?_
      | refine ok_seq ?_ | refine ok_reg ?_ | refine Zp ?_ | refine Zq ?_ | refine Zr (fun hc => ?_) (fun hc => ?_) | refine ok_block ?_ | refine ok_exit ?_ | refine ok_skip ?_ | refine ok_ret ?_ | refine x_normal_then ?_
      | refine x_exit_here ?_ | refine Zs ?_ | refine Zv ?_ | refine x_ret_then ?_ | refine x_ret_block ?_ | refine x_normal_block ?_ | refine Zt ?_ | refine Zu ?_
    refine ok_for (ι := Nat) (fun x_ => envL [(2, vb false), (23, .d (.im (p.map eNod))), (24, vi p.length), (25, vi k), (4, .ref 1 0), (58, .d (.im ((varsS x).map eVr))), (59, vi (varsS x).length), (60, vi q), (101, .d (.im (v.clock.map eCnd))), (102, vi v.clock.length), (103, vi x_)]) (fun x_ => stL [none, some (.var ((eNod x).map .d)), none]) (fun x_ => x_ ≤ v.clock.length ∧ ((((v.clock.drop x_).all fun c => nameS c.name) && vsS (x.ins.length + x.outs.length) (q + 1) ((varsS x).drop (q + 1)) && x.eqs.all eqS) && (p.drop (k + 1)).all nodS) = shapeS p) (fun x_ => v.clock.length - x_) 0 (⟨Nat.zero_le _, j2⟩) (weak_mk rfl ⟨.refl _, .refl _, .refl _, .refl _, .refl _, .refl _, .refl _, .refl _, .refl _, .refl _, .refl _, trivial⟩ ⟨⟨rfl, _, rfl, rfl, fun _ _ _ => .refl _⟩, trivial⟩) (fun _ => Nat.le_refl _) ?_
    rintro r ⟨l1, l2⟩
    rcases hz : v.clock[r]? with _ | c
    · have hle := none_le hz
      have er : decide ((r : Int) < (v.clock.length : Int)) = false := decide_eq_false (by omega)
      rw [drop_none hz, List.all_nil, Bool.true_and] at l2
      repeat' first
        | refine Z1 ?_ | refine Z2 ?_ | refine Z3 ?_ | refine Z4 ?_ | refine Z5 ?_ | refine Z6 ?_ | refine Z7 ?_ | refine Z8 ?_ | refine Z9 ?_ | refine Za (fun hc => ?_) (fun hc => ?_) | refine Zb (fun hc => ?_) (fun hc => ?_)
        | refine Zd ?_ | refine Ze ?_ | refine Zf ?_ | refine Zg ?_ | refine Zh ?_ | refine Zi ?_ | refine Zj ?_ | refine Zk ?_ | refine Zl ?_ | refine Zm ?_ | refine Zn (fun hc => ?_) (fun hc => ?_) | refine Zo ?_ | refine ok_seq ?_
        | refine ok_reg ?_ | refine Zp ?_ | refine Zq ?_ | refine Zr (fun hc => ?_) (fun hc => ?_) | refine ok_block ?_ | refine ok_exit ?_ | refine ok_skip ?_ | refine ok_ret ?_ | refine x_normal_then ?_ | refine x_exit_here ?_
        | refine Zs ?_ | refine Zv ?_ | refine x_ret_then ?_ | refine x_ret_block ?_ | refine x_normal_block ?_ | refine Zt ?_ | refine Zu ?_
      exact ⟨q + 1, ⟨hlt2, l2⟩, by (try simp only); omega, low_mk (Nat.le_of_ble_eq_true rfl) ⟨⟨rfl, rfl⟩, ⟨rfl, rfl⟩, ⟨rfl, rfl⟩, ⟨rfl, rfl⟩, ⟨rfl, rfl⟩, ⟨rfl, rfl⟩, ⟨rfl, rfl⟩, ⟨rfl, rfl⟩, trivial⟩ ⟨⟨rfl, rfl⟩, trivial⟩⟩
    · obtain ⟨hd3, hlt3⟩ := drop_some hz
      have er : decide ((r : Int) < (v.clock.length : Int)) = true := decide_eq_true (by omega)
      rw [hd3, List.all_cons] at l2
      cases he : nameS c.name with
      | false =>
        have ex : (!nameS c.name) = true := by rw [he]; rfl
        repeat' first
          | refine Z1 ?_ | refine Z2 ?_ | refine Z3 ?_ | refine Z4 ?_ | refine Z5 ?_ | refine Z6 ?_ | refine Z7 ?_ | refine Z8 ?_ | refine Z9 ?_ | refine Za (fun hc => ?_) (fun hc => ?_) | refine Zb (fun hc => ?_) (fun hc => ?_)
          | refine Zc (sname_ok _) ?_ | refine Zd ?_ | refine Ze ?_ | refine Zf ?_ | refine Zg ?_ | refine Zh ?_ | refine Zi ?_ | refine Zj ?_ | refine Zk ?_ | refine Zl ?_ | refine Zm ?_ | refine Zn (fun hc => ?_) (fun hc => ?_)
          | refine Zo ?_ | refine ok_seq ?_ | refine ok_reg ?_ | refine Zp ?_ | refine Zq ?_ | refine Zr (fun hc => ?_) (fun hc => ?_) | refine ok_block ?_ | refine ok_exit ?_ | refine ok_skip ?_ | refine ok_ret ?_ | refine x_normal_then ?_
          | refine x_exit_here ?_ | refine Zs ?_ | refine Zv ?_ | refine x_ret_then ?_ | refine x_ret_block ?_ | refine x_normal_block ?_ | refine Zt ?_ | refine Zu ?_
        exact ret_vb (by rw [← l2, he]; rfl)
      | true =>
        have ex : (!nameS c.name) = false := by rw [he]; rfl
        repeat' first
          | refine Z1 ?_ | refine Z2 ?_ | refine Z3 ?_ | refine Z4 ?_ | refine Z5 ?_ | refine Z6 ?_ | refine Z7 ?_ | refine Z8 ?_ | refine Z9 ?_ | refine Za (fun hc => ?_) (fun hc => ?_) | refine Zb (fun hc => ?_) (fun hc => ?_)
          | refine Zc (sname_ok _) ?_ | refine Zd ?_ | refine Ze ?_ | refine Zf ?_ | refine Zg ?_ | refine Zh ?_ | refine Zi ?_ | refine Zj ?_ | refine Zk ?_ | refine Zl ?_ | refine Zm ?_ | refine Zn (fun hc => ?_) (fun hc => ?_)
          | refine Zo ?_ | refine ok_seq ?_ | refine ok_reg ?_ | refine Zp ?_ | refine Zq ?_ | refine Zr (fun hc => ?_) (fun hc => ?_) | refine ok_block ?_ | refine ok_exit ?_ | refine ok_skip ?_ | refine ok_ret ?_ | refine x_normal_then ?_
          | refine x_exit_here ?_ | refine Zs ?_ | refine Zv ?_ | refine x_ret_then ?_ | refine x_ret_block ?_ | refine x_normal_block ?_ | refine Zt ?_ | refine Zu ?_
        rw [he, Bool.true_and] at l2
        exact ⟨r + 1, ⟨hlt3, l2⟩, by (try simp only); omega, low_mk (Nat.le_of_ble_eq_true rfl) ⟨⟨rfl, rfl⟩, ⟨rfl, rfl⟩, ⟨rfl, rfl⟩, ⟨rfl, rfl⟩, ⟨rfl, rfl⟩, ⟨rfl, rfl⟩, ⟨rfl, rfl⟩, ⟨rfl, rfl⟩, ⟨rfl, rfl⟩, ⟨rfl, rfl⟩, ⟨rfl, rfl⟩, trivial⟩ ⟨⟨rfl, rfl⟩, trivial⟩⟩
  · have c5 : decide ((q : Int) < (x.ins.length : Int) + (x.outs.length : Int)) = false := decide_eq_false hq5
    repeat' first
      | refine Z1 ?_ | refine Z2 ?_ | refine Z3 ?_ | refine Z4 ?_ | refine Z5 ?_ | refine Z6 ?_ | refine Z7 ?_ | refine Z8 ?_ | refine Z9 ?_ | refine Za (fun hc => ?_) (fun hc => ?_) | refine Zb (fun hc => ?_) (fun hc => ?_)
      | refine Zc (sname_ok _) ?_ | refine Zd ?_ | refine Ze ?_ | refine Zf ?_ | refine Zg ?_ | refine Zh ?_ | refine Zi ?_ | refine Zj ?_ | refine Zk ?_ | refine Zl ?_ | refine Zm ?_ | refine Zn (fun hc => ?_) (fun hc => ?_) | refine Zo ?_
      | refine ok_seq ?_ | refine ok_reg ?_ | refine Zp ?_ | refine Zq ?_ | refine Zr (fun hc => ?_) (fun hc => ?_) | refine ok_block ?_ | refine ok_exit ?_ | refine ok_skip ?_ | refine ok_ret ?_ | refine x_normal_then ?_
      | refine x_exit_here ?_ | refine Zs ?_ | refine Zv ?_ | refine x_ret_then ?_ | refine x_ret_block ?_ | refine x_normal_block ?_ | refine Zt ?_ | refine Zu ?_
    refine ok_for (ι := Nat) (fun x_ => envL [(2, vb false), (23, .d (.im (p.map eNod))), (24, vi p.length), (25, vi k), (4, .ref 1 0), (58, .d (.im ((varsS x).map eVr))), (59, vi (varsS x).length), (60, vi q), (101, .d (.im (v.clock.map eCnd))), (102, vi v.clock.length), (103, vi x_)]) (fun x_ => stL [none, some (.var ((eNod x).map .d)), none]) (fun x_ => x_ ≤ v.clock.length ∧ ((((v.clock.drop x_).all fun c => nameS c.name) && vsS (x.ins.length + x.outs.length) (q + 1) ((varsS x).drop (q + 1)) && x.eqs.all eqS) && (p.drop (k + 1)).all nodS) = shapeS p) (fun x_ => v.clock.length - x_) 0 (⟨Nat.zero_le _, j2⟩) (weak_mk rfl ⟨.refl _, .refl _, .refl _, .refl _, .refl _, .refl _, .refl _, .refl _, .refl _, .refl _, .refl _, trivial⟩ ⟨⟨rfl, _, rfl, rfl, fun _ _ _ => .refl _⟩, trivial⟩) (fun _ => Nat.le_refl _) ?_
    rintro r ⟨l1, l2⟩
    rcases hz : v.clock[r]? with _ | c
    · have hle := none_le hz
      have er : decide ((r : Int) < (v.clock.length : Int)) = false := decide_eq_false (by omega)
      rw [drop_none hz, List.all_nil, Bool.true_and] at l2
      repeat' first
        | refine Z1 ?_ | refine Z2 ?_ | refine Z3 ?_ | refine Z4 ?_ | refine Z5 ?_ | refine Z6 ?_ | refine Z7 ?_ | refine Z8 ?_ | refine Z9 ?_ | refine Za (fun hc => ?_) (fun hc => ?_) | refine Zb (fun hc => ?_) (fun hc => ?_)
        | refine Zd ?_ | refine Ze ?_ | refine Zf ?_ | refine Zg ?_ | refine Zh ?_ | refine Zi ?_ | refine Zj ?_ | refine Zk ?_ | refine Zl ?_ | refine Zm ?_ | refine Zn (fun hc => ?_) (fun hc => ?_) | refine Zo ?_ | refine ok_seq ?_
        | refine ok_reg ?_ | refine Zp ?_ | refine Zq ?_ | refine Zr (fun hc => ?_) (fun hc => ?_) | refine ok_block ?_ | refine ok_exit ?_ | refine ok_skip ?_ | refine ok_ret ?_ | refine x_normal_then ?_ | refine x_exit_here ?_
        | refine Zs ?_ | refine Zv ?_ | refine x_ret_then ?_ | refine x_ret_block ?_ | refine x_normal_block ?_ | refine Zt ?_ | refine Zu ?_
      exact ⟨q + 1, ⟨hlt2, l2⟩, by (try simp only); omega, low_mk (Nat.le_of_ble_eq_true rfl) ⟨⟨rfl, rfl⟩, ⟨rfl, rfl⟩, ⟨rfl, rfl⟩, ⟨rfl, rfl⟩, ⟨rfl, rfl⟩, ⟨rfl, rfl⟩, ⟨rfl, rfl⟩, ⟨rfl, rfl⟩, trivial⟩ ⟨⟨rfl, rfl⟩, trivial⟩⟩
    · obtain ⟨hd3, hlt3⟩ := drop_some hz
      have er : decide ((r : Int) < (v.clock.length : Int)) = true := decide_eq_true (by omega)
      rw [hd3, List.all_cons] at l2
      cases he : nameS c.name with
      | false =>
        have ex : (!nameS c.name) = true := by rw [he]; rfl
        repeat' first
          | refine Z1 ?_ | refine Z2 ?_ | refine Z3 ?_ | refine Z4 ?_ | refine Z5 ?_ | refine Z6 ?_ | refine Z7 ?_ | refine Z8 ?_ | refine Z9 ?_ | refine Za (fun hc => ?_) (fun hc => ?_) | refine Zb (fun hc => ?_) (fun hc => ?_)
          | refine Zc (sname_ok _) ?_ | refine Zd ?_ | refine Ze ?_ | refine Zf ?_ | refine Zg ?_ | refine Zh ?_ | refine Zi ?_ | refine Zj ?_ | refine Zk ?_ | refine Zl ?_ | refine Zm ?_ | refine Zn (fun hc => ?_) (fun hc => ?_)
          | refine Zo ?_ | refine ok_seq ?_ | refine ok_reg ?_ | refine Zp ?_ | refine Zq ?_ | refine Zr (fun hc => ?_) (fun hc => ?_) | refine ok_block ?_ | refine ok_exit ?_ | refine ok_skip ?_ | refine ok_ret ?_ | refine x_normal_then ?_
          | refine x_exit_here ?_ | refine Zs ?_ | refine Zv ?_ | refine x_ret_then ?_ | refine x_ret_block ?_ | refine x_normal_block ?_ | refine Zt ?_ | refine Zu ?_
        exact ret_vb (by rw [← l2, he]; rfl)
      | true =>
        have ex : (!nameS c.name) = false := by rw [he]; rfl
        repeat' first
          | refine Z1 ?_ | refine Z2 ?_ | refine Z3 ?_ | refine Z4 ?_ | refine Z5 ?_ | refine Z6 ?_ | refine Z7 ?_ | refine Z8 ?_ | refine Z9 ?_ | refine Za (fun hc => ?_) (fun hc => ?_) | refine Zb (fun hc => ?_) (fun hc => ?_)
          | refine Zc (sname_ok _) ?_ | refine Zd ?_ | refine Ze ?_ | refine Zf ?_ | refine Zg ?_ | refine Zh ?_ | refine Zi ?_ | refine Zj ?_ | refine Zk ?_ | refine Zl ?_ | refine Zm ?_ | refine Zn (fun hc => ?_) (fun hc => ?_)
          | refine Zo ?_ | refine ok_seq ?_ | refine ok_reg ?_ | refine Zp ?_ | refine Zq ?_ | refine Zr (fun hc => ?_) (fun hc => ?_) | refine ok_block ?_ | refine ok_exit ?_ | refine ok_skip ?_ | refine ok_ret ?_ | refine x_normal_then ?_
          | refine x_exit_here ?_ | refine Zs ?_ | refine Zv ?_ | refine x_ret_then ?_ | refine x_ret_block ?_ | refine x_normal_block ?_ | refine Zt ?_ | refine Zu ?_
        rw [he, Bool.true_and] at l2
        exact ⟨r + 1, ⟨hlt3, l2⟩, by (try simp only); omega, low_mk (Nat.le_of_ble_eq_true rfl) ⟨⟨rfl, rfl⟩, ⟨rfl, rfl⟩, ⟨rfl, rfl⟩, ⟨rfl, rfl⟩, ⟨rfl, rfl⟩, ⟨rfl, rfl⟩, ⟨rfl, rfl⟩, ⟨rfl, rfl⟩, ⟨rfl, rfl⟩, ⟨rfl, rfl⟩, ⟨rfl, rfl⟩, trivial⟩ ⟨⟨rfl, rfl⟩, trivial⟩⟩
end Go.Pm
