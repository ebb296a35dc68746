/- Part of the proof. -/
import Derived.Test.YtljgefnmbpmjmaaDoorT12
import Derived.Test.YtljgefnmbpmjmaaDoorT9
set_option linter.unusedVariables false
set_option linter.unusedSimpArgs false
namespace Go.Pm
attribute [local irreducible] AR Ok inBlock andThen endQ aoper
set_option maxHeartbeats 1000000
open Go.Proofs
def eVrs (l : List Vr) : List D := [.im (l.map eVr)]
def vI (m : Nat) (v : Vr) : Bool :=
  if (!nameI v.name) = true ∨ (v.type ≠ 1 ∧ v.type ≠ 2) ∨ 8 < (v.clock.length : Int) ∨ ((m : Int) < 2 ∧ 0 < (v.clock.length : Int)) then false else v.clock.all fun c => nameI c.name
def grpI : Nat → List (List Vr) → Bool
  | _, [] => true
  | m, l :: ls => l.all (vI m) && grpI (m + 1) ls
def eqI (e : Eqn) : Bool :=
  if (e.lhs.length : Int) < 1 ∨ 500 < (e.lhs.length : Int) ∨ 500 < (e.args.length : Int) then false
  else if (!e.lhs.all nameI) = true then false
  else if e.call = ⟨#[]⟩ then (if (e.lhs.length : Int) ≠ 1 ∨ 0 < (e.args.length : Int) ∨ (!exprI e.code) = true then false else true)
  else if (!nameI e.call) = true ∨ 0 < (e.code.length : Int) then false else e.args.all exprI
def nodI (x : Nod) : Bool :=
  if (!nameI x.name) = true ∨ (x.outs.length : Int) < 1 ∨ (x.eqs.length : Int) < 1 ∨ 500 < (x.ins.length : Int) + (x.outs.length : Int) + (x.vars.length : Int) ∨ 500 < (x.eqs.length : Int) then false
  else grpI 0 [x.ins, x.outs, x.vars] && x.eqs.all eqI
def shapeI (p : List Nod) : Bool := if (p.length : Int) < 1 ∨ 200 < (p.length : Int) then false else p.all nodI
theorem notb {b : Bool} {P : Prop} (h : ¬ ((!b) = true ∨ P)) : (!b) = false := by cases b <;> simp_all
set_option maxHeartbeats 8000000 in
theorem shape_ok (p : List Nod) (hw : wL wNod p ≤ 1048576) : PFun X 18 [.agg [.d (.im (p.map eNod))]] (vb (shapeI p)) := by
  have hpl : p.length ≤ 1048576 := by simp only [wL] at hw; omega
  refine pfun_of Tryd.func18 rfl (by decide) Tryd.ntmps18 Tryd.results18 (by simp) rfl rfl ?_
  by_cases hbad : (p.length : Int) < 1 ∨ 200 < (p.length : Int)
  · have hn : shapeI p = false := by simp only [shapeI, hbad, if_true]
    repeat' first
      | refine Z1 ?_ | refine Z2 ?_ | refine Z5 ?_ | refine Z7 ?_ | refine Z9 ?_ | refine Zb (fun hc => ?_) (fun hc => ?_) | refine Zd ?_ | refine Zh ?_ | refine Zi ?_ | refine Zl ?_ | refine Zm ?_ | refine Zo ?_ | refine ok_seq ?_
      | refine Zp ?_ | refine Zr (fun hc => ?_) (fun hc => ?_) | refine ok_block ?_ | refine ok_skip ?_ | refine ok_ret ?_ | refine x_normal_then ?_ | refine x_ret_then ?_ | refine Zt ?_
    all_goals simp only [decide_eq_true_eq, decide_eq_false_iff_not, Bool.not_eq_true, Bool.not_eq_false, Bool.not_eq_eq_eq_not, Bool.not_true, Bool.not_false] at *
    all_goals first
      | exact ret_vb hn.symm
      | (exfalso; omega)
  have a1 : decide ((p.length : Int) < 1) = false := decide_eq_false (by omega)
  have a2 : decide (200 < (p.length : Int)) = false := decide_eq_false (by omega)
  have hn : shapeI p = p.all nodI := by simp only [shapeI, hbad, if_false]
  repeat' first
    | refine Z1 ?_ | refine Z2 ?_ | refine Z5 ?_ | refine Z7 ?_ | refine Zd ?_ | refine Zh ?_ | refine Zi ?_ | refine Zm ?_ | refine Zo ?_ | refine ok_seq ?_ | refine Zq ?_ | refine ok_block ?_ | refine ok_skip ?_ | refine x_normal_then ?_
  refine ok_for (ι := Nat) (fun x_ => envL [(2, vb false), (28, .d (.im (p.map eNod))), (29, vi p.length), (30, vi x_)]) (fun x_ => stL [none]) (fun x_ => x_ ≤ p.length ∧ (p.drop x_).all nodI = shapeI p) (fun x_ => p.length - x_) 0 (⟨Nat.zero_le _, hn.symm⟩) (weak_mk rfl ⟨.refl _, .refl _, .refl _, .refl _, trivial⟩ trivial) (fun _ => Nat.le_refl 1) ?_
  rintro k ⟨i1, i2⟩
  rcases hx : p[k]? with _ | x
  · have hle := none_le hx
    have ek : decide ((k : Int) < (p.length : Int)) = false := decide_eq_false (by omega)
    rw [drop_none hx] at i2
    repeat' first
      | refine Z1 ?_ | refine Z2 ?_ | refine Zo ?_ | refine ok_seq ?_ | refine Zq ?_ | refine ok_exit ?_ | refine ok_ret ?_ | refine x_normal_then ?_ | refine x_exit_here ?_ | refine Zv ?_ | refine Zt ?_
    exact ret_vb i2
  obtain ⟨hd, hlt⟩ := drop_some hx
  have ek : decide ((k : Int) < (p.length : Int)) = true := decide_eq_true (by omega)
  have hwx := wL_mem (w := wNod) (List.mem_of_getElem? hx)
  have hwx1 : wNod x ≤ 1048576 := by simp only [wL] at hw; omega
  have hwx2 := hwx1
  simp only [wNod, wL] at hwx2
  rw [hd, List.all_cons] at i2
  by_cases hhd : (!nameI x.name) = true ∨ (x.outs.length : Int) < 1 ∨ (x.eqs.length : Int) < 1 ∨ 500 < (x.ins.length : Int) + (x.outs.length : Int) + (x.vars.length : Int) ∨ 500 < (x.eqs.length : Int)
  · have hnx : nodI x = false := by simp only [nodI, hhd, if_true]
    have hres : false = shapeI p := by rw [← i2, hnx]; rfl
    repeat' first
      | refine Z1 ?_ | refine Z2 ?_ | refine Z4 ?_ | refine Z5 ?_ | refine Z7 ?_ | refine Z9 ?_ | refine Zb (fun hc => ?_) (fun hc => ?_) | refine Zc (name_ok _) ?_ | refine Zd ?_ | refine Ze ?_ | refine Zf ?_ | refine Zh ?_ | refine Zi ?_
      | refine Zl ?_ | refine Zm ?_ | refine Zo ?_ | refine ok_seq ?_ | refine Zp ?_ | refine Zr (fun hc => ?_) (fun hc => ?_) | refine ok_block ?_ | refine ok_skip ?_ | refine ok_ret ?_ | refine x_normal_then ?_ | refine x_ret_then ?_
      | refine x_ret_block ?_ | refine Zt ?_
    all_goals simp only [decide_eq_true_eq, decide_eq_false_iff_not, Bool.not_eq_true, Bool.not_eq_false, Bool.not_eq_eq_eq_not, Bool.not_true, Bool.not_false] at *
    all_goals first
      | exact ret_vb hres
      | (exfalso; simp_all; done)
      | (exfalso; simp_all; omega)
  have b1 := notb hhd
  have b2 : decide ((x.outs.length : Int) < 1) = false := decide_eq_false (fun h => hhd (.inr (.inl h)))
  have b3 : decide ((x.eqs.length : Int) < 1) = false := decide_eq_false (fun h => hhd (.inr (.inr (.inl h))))
  have b4 : decide (500 < (x.ins.length : Int) + (x.outs.length : Int) + (x.vars.length : Int)) = false := decide_eq_false (fun h => hhd (.inr (.inr (.inr (.inl h)))))
  have b5 : decide (500 < (x.eqs.length : Int)) = false := decide_eq_false (fun h => hhd (.inr (.inr (.inr (.inr h)))))
  have hnx : nodI x = (grpI 0 [x.ins, x.outs, x.vars] && x.eqs.all eqI) := by simp only [nodI, hhd, if_false]
  rw [hnx] at i2
  obtain ⟨gs, hgs⟩ : ∃ gs, gs = [x.ins, x.outs, x.vars] := ⟨_, rfl⟩
  have hgl : gs.length = 3 := by rw [hgs]; rfl
  repeat' first
    | refine Z1 ?_ | refine Z2 ?_ | refine Z4 ?_ | refine Z5 ?_ | refine Z7 ?_ | refine Zc (name_ok _) ?_ | refine op_len (e := eVrs) (l := [x.ins, x.outs, x.vars]) rfl rfl rfl rfl rfl ?_ | refine Zd ?_ | refine Ze ?_ | refine Zf ?_
    | refine Zh ?_ | refine Zi ?_ | refine Zm ?_ | refine Zo ?_ | refine ok_seq ?_ | refine Zp ?_ | refine Zq ?_ | refine ok_block ?_ | refine ok_skip ?_ | refine x_normal_then ?_
  refine ok_for (ι := Nat) (fun x_ => envL [(2, vb false), (28, .d (.im (p.map eNod))), (29, vi p.length), (30, vi k), (4, .ref 1 0), (76, .d (.im ([x.ins, x.outs, x.vars].map eVrs))), (77, vi [x.ins, x.outs, x.vars].length), (78, vi x_)]) (fun x_ => stL [none, some (.var ((eNod x).map .d)), none]) (fun x_ => x_ ≤ [x.ins, x.outs, x.vars].length ∧ ((grpI x_ ([x.ins, x.outs, x.vars].drop x_) && x.eqs.all eqI) && (p.drop (k + 1)).all nodI) = shapeI p) (fun x_ => [x.ins, x.outs, x.vars].length - x_) 0 (⟨Nat.zero_le _, i2⟩) (weak_mk rfl ⟨.refl _, .refl _, .refl _, .refl _, .refl _, .refl _, .refl _, .refl _, trivial⟩ ⟨⟨rfl, _, rfl, rfl, fun _ _ _ => .refl _⟩, trivial⟩) (fun _ => Nat.le_refl 3) ?_
  rintro m ⟨j1, j2⟩
  have hg3 : [x.ins, x.outs, x.vars].length = 3 := rfl
  rcases hy : [x.ins, x.outs, x.vars][m]? with _ | g
  · have hle := none_le hy
    have em : decide ((m : Int) < ([x.ins, x.outs, x.vars].length : Int)) = false := decide_eq_false (by omega)
    rw [drop_none hy] at j2
    simp only [grpI, Bool.true_and] at j2
    repeat' first
      | refine Z1 ?_ | refine Z2 ?_ | refine Z5 ?_ | refine Zd ?_ | refine Zo ?_ | refine ok_seq ?_ | refine Zq ?_ | refine ok_block ?_ | refine ok_exit ?_ | refine x_normal_then ?_ | refine x_exit_here ?_ | refine Zv ?_
    refine ok_for (ι := Nat) (fun x_ => envL [(2, vb false), (28, .d (.im (p.map eNod))), (29, vi p.length), (30, vi k), (134, .d (.im (x.eqs.map eEqn))), (135, vi x.eqs.length), (136, vi x_)]) (fun x_ => stL [none, none, none]) (fun x_ => x_ ≤ x.eqs.length ∧ ((x.eqs.drop x_).all eqI && (p.drop (k + 1)).all nodI) = shapeI p) (fun x_ => x.eqs.length - x_) 0 (⟨Nat.zero_le _, j2⟩) (weak_mk rfl ⟨.refl _, .refl _, .refl _, .refl _, .refl _, .refl _, .refl _, trivial⟩ trivial) (fun _ => Nat.le_refl 3) ?_
    rintro r ⟨l1, l2⟩
    rcases hz : x.eqs[r]? with _ | e
    · have hle := none_le hz
      have er : decide ((r : Int) < (x.eqs.length : Int)) = false := decide_eq_false (by omega)
      rw [drop_none hz, List.all_nil, Bool.true_and] at l2
      repeat' first
        | refine Z1 ?_ | refine Z2 ?_ | refine Z5 ?_ | refine Zf ?_ | refine Zo ?_ | refine ok_seq ?_ | refine ok_reg ?_ | refine Zq ?_ | refine ok_exit ?_ | refine x_normal_then ?_ | refine x_exit_here ?_ | refine Zv ?_
        | refine x_normal_block ?_
      exact ⟨k + 1, ⟨hlt, l2⟩, by (try simp only); omega, low_mk (Nat.le_of_ble_eq_true rfl) ⟨⟨rfl, rfl⟩, ⟨rfl, rfl⟩, ⟨rfl, rfl⟩, ⟨rfl, rfl⟩, trivial⟩ trivial⟩
    obtain ⟨hd3, hlt3⟩ := drop_some hz
    have er : decide ((r : Int) < (x.eqs.length : Int)) = true := decide_eq_true (by omega)
    have hwe := wL_mem (w := wEqn) (List.mem_of_getElem? hz)
    have hwe2 : wEqn e ≤ 1048576 := by omega
    simp only [wEqn, wL] at hwe2
    rw [hd3, List.all_cons] at l2
    by_cases heb : (e.lhs.length : Int) < 1 ∨ 500 < (e.lhs.length : Int) ∨ 500 < (e.args.length : Int)
    · have hres : false = shapeI p := by rw [← l2]; simp only [eqI, heb, if_true, Bool.false_and]
      repeat' first
        | refine Z1 ?_ | refine Z2 ?_ | refine Z5 ?_ | refine Z7 ?_ | refine Z9 ?_ | refine Zb (fun hc => ?_) (fun hc => ?_) | refine Zd ?_ | refine Ze ?_ | refine Zh ?_ | refine Zi ?_ | refine Zl ?_ | refine Zm ?_ | refine Zo ?_
        | refine ok_seq ?_ | refine Zp ?_ | refine Zr (fun hc => ?_) (fun hc => ?_) | refine ok_block ?_ | refine ok_skip ?_ | refine ok_ret ?_ | refine x_normal_then ?_ | refine x_ret_then ?_ | refine x_ret_block ?_ | refine Zt ?_
      all_goals simp only [decide_eq_true_eq, decide_eq_false_iff_not, Bool.not_eq_true, Bool.not_eq_false, Bool.not_eq_eq_eq_not, Bool.not_true, Bool.not_false] at *
      all_goals first
        | exact ret_vb hres
        | (exfalso; omega)
    have c1 : decide ((e.lhs.length : Int) < 1) = false := decide_eq_false (fun h => heb (.inl h))
    have c2 : decide (500 < (e.lhs.length : Int)) = false := decide_eq_false (fun h => heb (.inr (.inl h)))
    have c3 : decide (500 < (e.args.length : Int)) = false := decide_eq_false (fun h => heb (.inr (.inr h)))
    repeat' first
      | refine Z1 ?_ | refine Z2 ?_ | refine Z5 ?_ | refine Z7 ?_ | refine Zd ?_ | refine Ze ?_ | refine Zh ?_ | refine Zi ?_ | refine Zm ?_ | refine Zo ?_ | refine ok_seq ?_ | refine Zp ?_ | refine Zq ?_ | refine ok_block ?_
      | refine ok_skip ?_ | refine x_normal_then ?_
    refine ok_for (ι := Nat) (fun x_ => envL [(2, vb false), (28, .d (.im (p.map eNod))), (29, vi p.length), (30, vi k), (134, .d (.im (x.eqs.map eEqn))), (135, vi x.eqs.length), (136, vi r), (12, .ref 3 0), (157, .d (.im (e.lhs.map eStr))), (158, vi e.lhs.length), (159, vi x_)]) (fun x_ => stL [none, none, none, some (.var ((eEqn e).map .d))]) (fun x_ => x_ ≤ e.lhs.length ∧ ((e.lhs.drop x_).all nameI = e.lhs.all nameI)) (fun x_ => e.lhs.length - x_) 0 (⟨Nat.zero_le _, rfl⟩) (weak_mk rfl ⟨.refl _, .refl _, .refl _, .refl _, .refl _, .refl _, .refl _, .refl _, .refl _, .refl _, .refl _, trivial⟩ ⟨⟨rfl, _, rfl, rfl, fun _ _ _ => .refl _⟩, trivial⟩) (fun _ => Nat.le_refl 4) ?_
    rintro u ⟨n1, n2⟩
    rcases hu : e.lhs[u]? with _ | s
    · have hle := none_le hu
      have eu : decide ((u : Int) < (e.lhs.length : Int)) = false := decide_eq_false (by omega)
      rw [drop_none hu, List.all_nil] at n2
      have hnl : ¬ (!e.lhs.all nameI) = true := by rw [← n2]; simp
      by_cases hcall : e.call = ⟨#[]⟩
      · have d1 : decide (e.call = ⟨#[]⟩) = true := decide_eq_true hcall
        by_cases hb2 : (e.lhs.length : Int) ≠ 1 ∨ 0 < (e.args.length : Int) ∨ (!exprI e.code) = true
        · have hres : false = shapeI p := by rw [← l2]; simp only [eqI, heb, hnl, hcall, hb2, if_true, if_false, ite_self, Bool.false_and]
          repeat' first
            | refine Z1 ?_ | refine Z2 ?_ | refine Z5 ?_ | refine Z7 ?_ | refine Z9 ?_ | refine Zb (fun hc => ?_) (fun hc => ?_) | refine Zc (expr_ok e.code (by omega)) ?_ | refine Zd ?_ | refine Zf ?_ | refine Zh ?_ | refine Zi ?_
            | refine Zl ?_ | refine Zm ?_ | refine Zo ?_ | refine ok_seq ?_ | refine ok_reg ?_ | refine Zp ?_ | refine Zq ?_ | refine Zr (fun hc => ?_) (fun hc => ?_) | refine ok_exit ?_ | refine ok_skip ?_ | refine ok_ret ?_
            | refine x_normal_then ?_ | refine x_exit_here ?_ | refine Zv ?_ | refine x_ret_then ?_ | refine x_ret_block ?_ | refine Zt ?_
          all_goals simp only [decide_eq_true_eq, decide_eq_false_iff_not, Bool.not_eq_true, Bool.not_eq_false, Bool.not_eq_eq_eq_not, Bool.not_true, Bool.not_false] at *
          all_goals first
            | exact ret_vb hres
            | (exfalso; simp_all; done)
            | (exfalso; simp_all; omega)
        · have d2 : decide ((e.lhs.length : Int) ≠ 1) = false := decide_eq_false (fun h => hb2 (.inl h))
          have d3 : decide (0 < (e.args.length : Int)) = false := decide_eq_false (fun h => hb2 (.inr (.inl h)))
          have d4 : (!exprI e.code) = false := by cases hq : (!exprI e.code) with | false => rfl | true => exact absurd (.inr (.inr hq)) hb2
          simp only [eqI, heb, hnl, hcall, hb2, if_true, if_false, Bool.true_and] at l2
          repeat' first
            | refine Z1 ?_ | refine Z2 ?_ | refine Z5 ?_ | refine Z7 ?_ | refine Zc (expr_ok e.code (by omega)) ?_ | refine Zd ?_ | refine Zf ?_ | refine Zh ?_ | refine Zi ?_ | refine Zm ?_ | refine Zo ?_ | refine ok_seq ?_ | refine ok_reg ?_
            | refine Zp ?_ | refine Zq ?_ | refine ok_exit ?_ | refine ok_skip ?_ | refine x_normal_then ?_ | refine x_exit_here ?_ | refine Zv ?_
          exact ⟨r + 1, ⟨hlt3, l2⟩, by (try simp only); omega, low_mk (Nat.le_of_ble_eq_true rfl) ⟨⟨rfl, rfl⟩, ⟨rfl, rfl⟩, ⟨rfl, rfl⟩, ⟨rfl, rfl⟩, ⟨rfl, rfl⟩, ⟨rfl, rfl⟩, ⟨rfl, rfl⟩, trivial⟩ trivial⟩
      · have d1 : decide (e.call = ⟨#[]⟩) = false := decide_eq_false hcall
        by_cases hb2 : (!nameI e.call) = true ∨ 0 < (e.code.length : Int)
        · have hres : false = shapeI p := by rw [← l2]; simp only [eqI, heb, hnl, hcall, hb2, if_true, if_false, ite_self, Bool.false_and]
          repeat' first
            | refine Z1 ?_ | refine Z2 ?_ | refine Z5 ?_ | refine Z7 ?_ | refine Z9 ?_ | refine Zb (fun hc => ?_) (fun hc => ?_) | refine Zc (name_ok _) ?_ | refine Zd ?_ | refine Zh ?_ | refine Zi ?_ | refine Zl ?_ | refine Zm ?_
            | refine Zo ?_ | refine ok_seq ?_ | refine Zp ?_ | refine Zq ?_ | refine Zr (fun hc => ?_) (fun hc => ?_) | refine ok_block ?_ | refine ok_exit ?_ | refine ok_skip ?_ | refine ok_ret ?_ | refine x_normal_then ?_
            | refine x_exit_here ?_ | refine Zv ?_ | refine x_ret_then ?_ | refine x_ret_block ?_ | refine Zt ?_
          all_goals simp only [decide_eq_true_eq, decide_eq_false_iff_not, Bool.not_eq_true, Bool.not_eq_false, Bool.not_eq_eq_eq_not, Bool.not_true, Bool.not_false] at *
          all_goals first
            | exact ret_vb hres
            | (exfalso; simp_all; done)
            | (exfalso; simp_all; omega)
        · have d2 := notb hb2
          have d3 : decide (0 < (e.code.length : Int)) = false := decide_eq_false (fun h => hb2 (.inr h))
          simp only [eqI, heb, hnl, hcall, hb2, if_true, if_false] at l2
          repeat' first
            | refine Z1 ?_ | refine Z2 ?_ | refine Z5 ?_ | refine Z7 ?_ | refine Zc (name_ok _) ?_ | refine Zd ?_ | refine Zh ?_ | refine Zi ?_ | refine Zm ?_ | refine Zo ?_ | refine ok_seq ?_ | refine Zq ?_ | refine ok_block ?_
            | refine ok_exit ?_ | refine ok_skip ?_ | refine x_normal_then ?_ | refine x_exit_here ?_ | refine Zv ?_
          refine ok_for (ι := Nat) (fun x_ => envL [(2, vb false), (28, .d (.im (p.map eNod))), (29, vi p.length), (30, vi k), (134, .d (.im (x.eqs.map eEqn))), (135, vi x.eqs.length), (136, vi r), (197, .d (.im (e.args.map eItms))), (198, vi e.args.length), (199, vi x_)]) (fun x_ => stL [none, none, none, none]) (fun x_ => x_ ≤ e.args.length ∧ (((e.args.drop x_).all exprI && (x.eqs.drop (r + 1)).all eqI) && (p.drop (k + 1)).all nodI) = shapeI p) (fun x_ => e.args.length - x_) 0 (⟨Nat.zero_le _, l2⟩) (weak_mk rfl ⟨.refl _, .refl _, .refl _, .refl _, .refl _, .refl _, .refl _, .refl _, .refl _, .refl _, trivial⟩ trivial) (fun _ => Nat.le_refl 4) ?_
          rintro q ⟨o1, o2⟩
          rcases hq : e.args[q]? with _ | a
          · have hle := none_le hq
            have eq : decide ((q : Int) < (e.args.length : Int)) = false := decide_eq_false (by omega)
            rw [drop_none hq, List.all_nil, Bool.true_and] at o2
            repeat' first
              | refine Z1 ?_ | refine Z2 ?_ | refine Z5 ?_ | refine Zf ?_ | refine Zo ?_ | refine ok_seq ?_ | refine ok_reg ?_ | refine Zq ?_ | refine ok_exit ?_ | refine x_normal_then ?_ | refine x_exit_here ?_ | refine Zv ?_
              | refine x_normal_block ?_
            exact ⟨r + 1, ⟨hlt3, o2⟩, by (try simp only); omega, low_mk (Nat.le_of_ble_eq_true rfl) ⟨⟨rfl, rfl⟩, ⟨rfl, rfl⟩, ⟨rfl, rfl⟩, ⟨rfl, rfl⟩, ⟨rfl, rfl⟩, ⟨rfl, rfl⟩, ⟨rfl, rfl⟩, trivial⟩ trivial⟩
          · obtain ⟨hd5, hlt5⟩ := drop_some hq
            have eq : decide ((q : Int) < (e.args.length : Int)) = true := decide_eq_true (by omega)
            have hwa := wL_mem (w := wL wItm) (List.mem_of_getElem? hq)
            rw [hd5, List.all_cons] at o2
            have hwa2 : wL wItm a ≤ 1048576 := by have := hwe; simp only [wEqn, wL] at this hwa ⊢; omega
            simp only [wL] at hwa2
            cases hea : exprI a with
            | false =>
              have ex : (!exprI a) = true := by rw [hea]; rfl
              repeat' first
                | refine Z1 ?_ | refine Z2 ?_ | refine Z5 ?_ | refine Zc (expr_ok a (by omega)) ?_ | refine Ze ?_ | refine Zo ?_ | refine ok_seq ?_ | refine Zp ?_ | refine ok_block ?_ | refine ok_skip ?_ | refine ok_ret ?_
                | refine x_normal_then ?_ | refine x_ret_then ?_ | refine x_ret_block ?_ | refine Zt ?_
              exact ret_vb (by rw [← o2, hea]; rfl)
            | true =>
              have ex : (!exprI a) = false := by rw [hea]; rfl
              repeat' first
                | refine Z1 ?_ | refine Z2 ?_ | refine Z5 ?_ | refine Zc (expr_ok a (by omega)) ?_ | refine Ze ?_ | refine Zf ?_ | refine Zo ?_ | refine ok_seq ?_ | refine ok_reg ?_ | refine Zp ?_ | refine Zq ?_ | refine ok_block ?_
                | refine ok_skip ?_ | refine x_normal_then ?_ | refine x_normal_block ?_
              rw [hea, Bool.true_and] at o2
              exact ⟨q + 1, ⟨hlt5, o2⟩, by (try simp only); omega, low_mk (Nat.le_of_ble_eq_true rfl) ⟨⟨rfl, rfl⟩, ⟨rfl, rfl⟩, ⟨rfl, rfl⟩, ⟨rfl, rfl⟩, ⟨rfl, rfl⟩, ⟨rfl, rfl⟩, ⟨rfl, rfl⟩, ⟨rfl, rfl⟩, ⟨rfl, rfl⟩, ⟨rfl, rfl⟩, trivial⟩ trivial⟩
    · obtain ⟨hd4, hlt4⟩ := drop_some hu
      have eu : decide ((u : Int) < (e.lhs.length : Int)) = true := decide_eq_true (by omega)
      rw [hd4, List.all_cons] at n2
      cases hs : nameI s with
      | false =>
        have es : (!nameI s) = true := by rw [hs]; rfl
        have hnl : (!e.lhs.all nameI) = true := by rw [← n2, hs]; rfl
        have hres : false = shapeI p := by rw [← l2]; simp only [eqI, heb, hnl, if_true, if_false, ite_self, Bool.false_and]
        repeat' first
          | refine Z1 ?_ | refine Z2 ?_ | refine Z5 ?_ | refine Zc (name_ok s) ?_ | refine Ze ?_ | refine Zo ?_ | refine ok_seq ?_ | refine Zp ?_ | refine ok_block ?_ | refine ok_skip ?_ | refine ok_ret ?_ | refine x_normal_then ?_
          | refine x_ret_then ?_ | refine x_ret_block ?_ | refine Zt ?_
        exact ret_vb hres
      | true =>
        have es : (!nameI s) = false := by rw [hs]; rfl
        repeat' first
          | refine Z1 ?_ | refine Z2 ?_ | refine Z5 ?_ | refine Zc (name_ok s) ?_ | refine Ze ?_ | refine Zf ?_ | refine Zo ?_ | refine ok_seq ?_ | refine ok_reg ?_ | refine Zp ?_ | refine Zq ?_ | refine ok_block ?_ | refine ok_skip ?_
          | refine x_normal_then ?_ | refine x_normal_block ?_
        rw [hs, Bool.true_and] at n2
        exact ⟨u + 1, ⟨hlt4, n2⟩, by (try simp only); omega, low_mk (Nat.le_of_ble_eq_true rfl) ⟨⟨rfl, rfl⟩, ⟨rfl, rfl⟩, ⟨rfl, rfl⟩, ⟨rfl, rfl⟩, ⟨rfl, rfl⟩, ⟨rfl, rfl⟩, ⟨rfl, rfl⟩, ⟨rfl, rfl⟩, ⟨rfl, rfl⟩, ⟨rfl, rfl⟩, ⟨rfl, rfl⟩, trivial⟩ ⟨⟨rfl, rfl⟩, trivial⟩⟩
  obtain ⟨hd2, hlt2⟩ := drop_some hy
  have em : decide ((m : Int) < ([x.ins, x.outs, x.vars].length : Int)) = true := decide_eq_true (by omega)
  have hgw : wL wVr g ≤ 1048576 := by
    have hm := List.mem_of_getElem? hy
    simp only [List.mem_cons, List.not_mem_nil, or_false] at hm
    rcases hm with rfl | rfl | rfl <;> (simp only [wL]; omega)
  simp only [wL] at hgw
  rw [hd2] at j2
  simp only [grpI] at j2
  repeat' first
    | refine Z1 ?_ | refine Z2 ?_ | refine Z5 ?_ | refine op_len (e := eVr) (l := g) rfl rfl rfl rfl rfl ?_ | refine Ze ?_ | refine Zo ?_ | refine ok_seq ?_ | refine Zp ?_ | refine ok_block ?_ | refine ok_skip ?_ | refine x_normal_then ?_
  refine ok_for (ι := Nat) (fun x_ => envL [(2, vb false), (28, .d (.im (p.map eNod))), (29, vi p.length), (30, vi k), (4, .ref 1 0), (76, .d (.im ([x.ins, x.outs, x.vars].map eVrs))), (77, vi [x.ins, x.outs, x.vars].length), (78, vi m), (5, vi m), (83, .d (.im (g.map eVr))), (84, vi g.length), (85, vi x_)]) (fun x_ => stL [none, some (.var ((eNod x).map .d)), none]) (fun x_ => x_ ≤ g.length ∧ ((((g.drop x_).all (vI m) && grpI (m + 1) ([x.ins, x.outs, x.vars].drop (m + 1))) && x.eqs.all eqI) && (p.drop (k + 1)).all nodI) = shapeI p) (fun x_ => g.length - x_) 0 (⟨Nat.zero_le _, j2⟩) (weak_mk rfl ⟨.refl _, .refl _, .refl _, .refl _, .refl _, .refl _, .refl _, .refl _, .refl _, .refl _, .refl _, .refl _, trivial⟩ ⟨⟨rfl, _, rfl, rfl, fun _ _ _ => .refl _⟩, trivial⟩) (fun _ => Nat.le_refl 3) ?_
  rintro q ⟨l1, l2⟩
  rcases hz : g[q]? with _ | v
  · have hle := none_le hz
    have eq : decide ((q : Int) < (g.length : Int)) = false := decide_eq_false (by omega)
    rw [drop_none hz, List.all_nil, Bool.true_and] at l2
    repeat' first
      | refine Z1 ?_ | refine Z2 ?_ | refine Z5 ?_ | refine Zf ?_ | refine Zo ?_ | refine ok_seq ?_ | refine ok_reg ?_ | refine Zq ?_ | refine ok_exit ?_ | refine x_normal_then ?_ | refine x_exit_here ?_ | refine Zv ?_
      | refine x_normal_block ?_
    exact ⟨m + 1, ⟨hlt2, l2⟩, by (try simp only); omega, low_mk (Nat.le_of_ble_eq_true rfl) ⟨⟨rfl, rfl⟩, ⟨rfl, rfl⟩, ⟨rfl, rfl⟩, ⟨rfl, rfl⟩, ⟨rfl, rfl⟩, ⟨rfl, rfl⟩, ⟨rfl, rfl⟩, ⟨rfl, rfl⟩, trivial⟩ ⟨⟨rfl, rfl⟩, trivial⟩⟩
  obtain ⟨hd3, hlt3⟩ := drop_some hz
  have eq : decide ((q : Int) < (g.length : Int)) = true := decide_eq_true (by omega)
  rw [hd3, List.all_cons] at l2
  have hwv := wL_mem (w := wVr) (List.mem_of_getElem? hz)
  have hvw : wVr v ≤ 1048576 := by omega
  simp only [wVr, wL] at hvw
  by_cases hvb : (!nameI v.name) = true ∨ (v.type ≠ 1 ∧ v.type ≠ 2) ∨ 8 < (v.clock.length : Int) ∨ ((m : Int) < 2 ∧ 0 < (v.clock.length : Int))
  · have hres : false = shapeI p := by rw [← l2]; simp only [vI, hvb, if_true, Bool.false_and]
    repeat' first
      | refine Z1 ?_ | refine Z2 ?_ | refine Z5 ?_ | refine Z6 ?_ | refine Z7 ?_ | refine Z8 ?_ | refine Z9 ?_ | refine Za (fun hc => ?_) (fun hc => ?_) | refine Zb (fun hc => ?_) (fun hc => ?_) | refine Zc (name_ok _) ?_ | refine Zd ?_
      | refine Ze ?_ | refine Zh ?_ | refine Zi ?_ | refine Zl ?_ | refine Zm ?_ | refine Zo ?_ | refine ok_seq ?_ | refine Zp ?_ | refine Zq ?_ | refine Zr (fun hc => ?_) (fun hc => ?_) | refine ok_block ?_ | refine ok_skip ?_
      | refine ok_ret ?_ | refine x_normal_then ?_ | refine x_ret_then ?_ | refine x_ret_block ?_ | refine Zt ?_
    all_goals simp only [decide_eq_true_eq, decide_eq_false_iff_not, Bool.not_eq_true, Bool.not_eq_false, Bool.not_eq_eq_eq_not, Bool.not_true, Bool.not_false] at *
    all_goals first
      | exact ret_vb hres
      | (exfalso; simp_all; done)
      | (exfalso; simp_all; omega)
  have hvi : vI m v = v.clock.all fun c => nameI c.name := by simp only [vI, hvb, if_false]
  rw [hvi] at l2
  have c1 := notb hvb
  have c4 : decide (8 < (v.clock.length : Int)) = false := decide_eq_false (fun h => hvb (.inr (.inr (.inl h))))
  have c5 : ¬ ((m : Int) < 2 ∧ 0 < (v.clock.length : Int)) := fun h => hvb (.inr (.inr (.inr h)))
  have c6 : v.type = 1 ∨ v.type = 2 := by
    rcases Classical.em (v.type = 1) with h | h
    · exact .inl h
    · rcases Classical.em (v.type = 2) with h' | h'
      · exact .inr h'
      · exact absurd (.inr (.inl ⟨h, h'⟩)) hvb
  rcases c6 with c6 | c6
  all_goals by_cases c7 : (m : Int) < 2
  · have d1 : decide (v.type ≠ 1) = false := decide_eq_false (by omega)
    have d3 : decide ((m : Int) < 2) = true := decide_eq_true c7
    have d4 : decide (0 < (v.clock.length : Int)) = false := decide_eq_false (by omega)
    repeat' first
      | refine Z1 ?_ | refine Z2 ?_ | refine Z5 ?_ | refine Z7 ?_ | refine Z8 ?_ | refine Zc (name_ok _) ?_ | refine Zd ?_ | refine Ze ?_ | refine Zh ?_ | refine Zi ?_ | refine Zl ?_ | refine Zm ?_ | refine Zo ?_ | refine ok_seq ?_
      | refine Zp ?_ | refine Zq ?_ | refine ok_block ?_ | refine ok_skip ?_ | refine x_normal_then ?_
    refine ok_for (ι := Nat) (fun x_ => envL [(2, vb false), (28, .d (.im (p.map eNod))), (29, vi p.length), (30, vi k), (4, .ref 1 0), (76, .d (.im ([x.ins, x.outs, x.vars].map eVrs))), (77, vi [x.ins, x.outs, x.vars].length), (78, vi m), (5, vi m), (83, .d (.im (g.map eVr))), (84, vi g.length), (85, vi q), (120, .d (.im (v.clock.map eCnd))), (121, vi v.clock.length), (122, vi x_)]) (fun x_ => stL [none, some (.var ((eNod x).map .d)), none, none]) (fun x_ => x_ ≤ v.clock.length ∧ (((((v.clock.drop x_).all fun c => nameI c.name) && (g.drop (q + 1)).all (vI m)) && grpI (m + 1) ([x.ins, x.outs, x.vars].drop (m + 1))) && x.eqs.all eqI && (p.drop (k + 1)).all nodI) = shapeI p) (fun x_ => v.clock.length - x_) 0 (⟨Nat.zero_le _, l2⟩) (weak_mk rfl ⟨.refl _, .refl _, .refl _, .refl _, .refl _, .refl _, .refl _, .refl _, .refl _, .refl _, .refl _, .refl _, .refl _, .refl _, .refl _, trivial⟩ ⟨⟨rfl, _, rfl, rfl, fun _ _ _ => .refl _⟩, trivial⟩) (fun _ => Nat.le_refl 4) ?_
    rintro r ⟨n1, n2⟩
    rcases hc : v.clock[r]? with _ | c
    · have hle := none_le hc
      have er : decide ((r : Int) < (v.clock.length : Int)) = false := decide_eq_false (by omega)
      rw [drop_none hc, List.all_nil, Bool.true_and] at n2
      repeat' first
        | refine Z1 ?_ | refine Z2 ?_ | refine Z5 ?_ | refine Zf ?_ | refine Zo ?_ | refine ok_seq ?_ | refine ok_reg ?_ | refine Zq ?_ | refine ok_exit ?_ | refine x_normal_then ?_ | refine x_exit_here ?_ | refine Zv ?_
        | refine x_normal_block ?_
      exact ⟨q + 1, ⟨hlt3, n2⟩, by (try simp only); omega, low_mk (Nat.le_of_ble_eq_true rfl) ⟨⟨rfl, rfl⟩, ⟨rfl, rfl⟩, ⟨rfl, rfl⟩, ⟨rfl, rfl⟩, ⟨rfl, rfl⟩, ⟨rfl, rfl⟩, ⟨rfl, rfl⟩, ⟨rfl, rfl⟩, ⟨rfl, rfl⟩, ⟨rfl, rfl⟩, ⟨rfl, rfl⟩, ⟨rfl, rfl⟩, trivial⟩ ⟨⟨rfl, rfl⟩, trivial⟩⟩
    · obtain ⟨hd5, hlt5⟩ := drop_some hc
      have er : decide ((r : Int) < (v.clock.length : Int)) = true := decide_eq_true (by omega)
      rw [hd5, List.all_cons] at n2
      cases he : nameI c.name with
      | false =>
        have ex : (!nameI c.name) = true := by rw [he]; rfl
        repeat' first
          | refine Z1 ?_ | refine Z2 ?_ | refine Z5 ?_ | refine Zc (name_ok _) ?_ | refine Ze ?_ | refine Zo ?_ | refine ok_seq ?_ | refine Zp ?_ | refine ok_block ?_ | refine ok_skip ?_ | refine ok_ret ?_ | refine x_normal_then ?_
          | refine x_ret_then ?_ | refine x_ret_block ?_ | refine Zt ?_
        exact ret_vb (by rw [← n2, he]; rfl)
      | true =>
        have ex : (!nameI c.name) = false := by rw [he]; rfl
        repeat' first
          | refine Z1 ?_ | refine Z2 ?_ | refine Z5 ?_ | refine Zc (name_ok _) ?_ | refine Ze ?_ | refine Zf ?_ | refine Zo ?_ | refine ok_seq ?_ | refine ok_reg ?_ | refine Zp ?_ | refine Zq ?_ | refine ok_block ?_ | refine ok_skip ?_
          | refine x_normal_then ?_ | refine x_normal_block ?_
        rw [he, Bool.true_and] at n2
        exact ⟨r + 1, ⟨hlt5, n2⟩, by (try simp only); omega, low_mk (Nat.le_of_ble_eq_true rfl) ⟨⟨rfl, rfl⟩, ⟨rfl, rfl⟩, ⟨rfl, rfl⟩, ⟨rfl, rfl⟩, ⟨rfl, rfl⟩, ⟨rfl, rfl⟩, ⟨rfl, rfl⟩, ⟨rfl, rfl⟩, ⟨rfl, rfl⟩, ⟨rfl, rfl⟩, ⟨rfl, rfl⟩, ⟨rfl, rfl⟩, ⟨rfl, rfl⟩, ⟨rfl, rfl⟩, ⟨rfl, rfl⟩, trivial⟩ ⟨⟨rfl, rfl⟩, trivial⟩⟩
  · have d1 : decide (v.type ≠ 1) = false := decide_eq_false (by omega)
    have d3 : decide ((m : Int) < 2) = false := decide_eq_false c7
    repeat' first
      | refine Z1 ?_ | refine Z2 ?_ | refine Z5 ?_ | refine Z7 ?_ | refine Z8 ?_ | refine Zc (name_ok _) ?_ | refine Zd ?_ | refine Ze ?_ | refine Zh ?_ | refine Zi ?_ | refine Zm ?_ | refine Zo ?_ | refine ok_seq ?_ | refine Zp ?_
      | refine Zq ?_ | refine ok_block ?_ | refine ok_skip ?_ | refine x_normal_then ?_
    refine ok_for (ι := Nat) (fun x_ => envL [(2, vb false), (28, .d (.im (p.map eNod))), (29, vi p.length), (30, vi k), (4, .ref 1 0), (76, .d (.im ([x.ins, x.outs, x.vars].map eVrs))), (77, vi [x.ins, x.outs, x.vars].length), (78, vi m), (5, vi m), (83, .d (.im (g.map eVr))), (84, vi g.length), (85, vi q), (120, .d (.im (v.clock.map eCnd))), (121, vi v.clock.length), (122, vi x_)]) (fun x_ => stL [none, some (.var ((eNod x).map .d)), none, none]) (fun x_ => x_ ≤ v.clock.length ∧ (((((v.clock.drop x_).all fun c => nameI c.name) && (g.drop (q + 1)).all (vI m)) && grpI (m + 1) ([x.ins, x.outs, x.vars].drop (m + 1))) && x.eqs.all eqI && (p.drop (k + 1)).all nodI) = shapeI p) (fun x_ => v.clock.length - x_) 0 (⟨Nat.zero_le _, l2⟩) (weak_mk rfl ⟨.refl _, .refl _, .refl _, .refl _, .refl _, .refl _, .refl _, .refl _, .refl _, .refl _, .refl _, .refl _, .refl _, .refl _, .refl _, trivial⟩ ⟨⟨rfl, _, rfl, rfl, fun _ _ _ => .refl _⟩, trivial⟩) (fun _ => Nat.le_refl 4) ?_
    rintro r ⟨n1, n2⟩
    rcases hc : v.clock[r]? with _ | c
    · have hle := none_le hc
      have er : decide ((r : Int) < (v.clock.length : Int)) = false := decide_eq_false (by omega)
      rw [drop_none hc, List.all_nil, Bool.true_and] at n2
      repeat' first
        | refine Z1 ?_ | refine Z2 ?_ | refine Z5 ?_ | refine Zf ?_ | refine Zo ?_ | refine ok_seq ?_ | refine ok_reg ?_ | refine Zq ?_ | refine ok_exit ?_ | refine x_normal_then ?_ | refine x_exit_here ?_ | refine Zv ?_
        | refine x_normal_block ?_
      exact ⟨q + 1, ⟨hlt3, n2⟩, by (try simp only); omega, low_mk (Nat.le_of_ble_eq_true rfl) ⟨⟨rfl, rfl⟩, ⟨rfl, rfl⟩, ⟨rfl, rfl⟩, ⟨rfl, rfl⟩, ⟨rfl, rfl⟩, ⟨rfl, rfl⟩, ⟨rfl, rfl⟩, ⟨rfl, rfl⟩, ⟨rfl, rfl⟩, ⟨rfl, rfl⟩, ⟨rfl, rfl⟩, ⟨rfl, rfl⟩, trivial⟩ ⟨⟨rfl, rfl⟩, trivial⟩⟩
    · obtain ⟨hd5, hlt5⟩ := drop_some hc
      have er : decide ((r : Int) < (v.clock.length : Int)) = true := decide_eq_true (by omega)
      rw [hd5, List.all_cons] at n2
      cases he : nameI c.name with
      | false =>
        have ex : (!nameI c.name) = true := by rw [he]; rfl
        repeat' first
          | refine Z1 ?_ | refine Z2 ?_ | refine Z5 ?_ | refine Zc (name_ok _) ?_ | refine Ze ?_ | refine Zo ?_ | refine ok_seq ?_ | refine Zp ?_ | refine ok_block ?_ | refine ok_skip ?_ | refine ok_ret ?_ | refine x_normal_then ?_
          | refine x_ret_then ?_ | refine x_ret_block ?_ | refine Zt ?_
        exact ret_vb (by rw [← n2, he]; rfl)
      | true =>
        have ex : (!nameI c.name) = false := by rw [he]; rfl
        repeat' first
          | refine Z1 ?_ | refine Z2 ?_ | refine Z5 ?_ | refine Zc (name_ok _) ?_ | refine Ze ?_ | refine Zf ?_ | refine Zo ?_ | refine ok_seq ?_ | refine ok_reg ?_ | refine Zp ?_ | refine Zq ?_ | refine ok_block ?_ | refine ok_skip ?_
          | refine x_normal_then ?_ | refine x_normal_block ?_
        rw [he, Bool.true_and] at n2
        exact ⟨r + 1, ⟨hlt5, n2⟩, by (try simp only); omega, low_mk (Nat.le_of_ble_eq_true rfl) ⟨⟨rfl, rfl⟩, ⟨rfl, rfl⟩, ⟨rfl, rfl⟩, ⟨rfl, rfl⟩, ⟨rfl, rfl⟩, ⟨rfl, rfl⟩, ⟨rfl, rfl⟩, ⟨rfl, rfl⟩, ⟨rfl, rfl⟩, ⟨rfl, rfl⟩, ⟨rfl, rfl⟩, ⟨rfl, rfl⟩, ⟨rfl, rfl⟩, ⟨rfl, rfl⟩, ⟨rfl, rfl⟩, trivial⟩ ⟨⟨rfl, rfl⟩, trivial⟩⟩
  · have d1 : decide (v.type ≠ 1) = true := decide_eq_true (by omega)
    have d2 : decide (v.type ≠ 2) = false := decide_eq_false (by omega)
    have d3 : decide ((m : Int) < 2) = true := decide_eq_true c7
    have d4 : decide (0 < (v.clock.length : Int)) = false := decide_eq_false (by omega)
    repeat' first
      | refine Z1 ?_ | refine Z2 ?_ | refine Z5 ?_ | refine Z7 ?_ | refine Zc (name_ok _) ?_ | refine Zd ?_ | refine Ze ?_ | refine Zh ?_ | refine Zi ?_ | refine Zl ?_ | refine Zm ?_ | refine Zo ?_ | refine ok_seq ?_ | refine Zp ?_
      | refine Zq ?_ | refine ok_block ?_ | refine ok_skip ?_ | refine x_normal_then ?_
    refine ok_for (ι := Nat) (fun x_ => envL [(2, vb false), (28, .d (.im (p.map eNod))), (29, vi p.length), (30, vi k), (4, .ref 1 0), (76, .d (.im ([x.ins, x.outs, x.vars].map eVrs))), (77, vi [x.ins, x.outs, x.vars].length), (78, vi m), (5, vi m), (83, .d (.im (g.map eVr))), (84, vi g.length), (85, vi q), (120, .d (.im (v.clock.map eCnd))), (121, vi v.clock.length), (122, vi x_)]) (fun x_ => stL [none, some (.var ((eNod x).map .d)), none, none]) (fun x_ => x_ ≤ v.clock.length ∧ (((((v.clock.drop x_).all fun c => nameI c.name) && (g.drop (q + 1)).all (vI m)) && grpI (m + 1) ([x.ins, x.outs, x.vars].drop (m + 1))) && x.eqs.all eqI && (p.drop (k + 1)).all nodI) = shapeI p) (fun x_ => v.clock.length - x_) 0 (⟨Nat.zero_le _, l2⟩) (weak_mk rfl ⟨.refl _, .refl _, .refl _, .refl _, .refl _, .refl _, .refl _, .refl _, .refl _, .refl _, .refl _, .refl _, .refl _, .refl _, .refl _, trivial⟩ ⟨⟨rfl, _, rfl, rfl, fun _ _ _ => .refl _⟩, trivial⟩) (fun _ => Nat.le_refl 4) ?_
    rintro r ⟨n1, n2⟩
    rcases hc : v.clock[r]? with _ | c
    · have hle := none_le hc
      have er : decide ((r : Int) < (v.clock.length : Int)) = false := decide_eq_false (by omega)
      rw [drop_none hc, List.all_nil, Bool.true_and] at n2
      repeat' first
        | refine Z1 ?_ | refine Z2 ?_ | refine Z5 ?_ | refine Zf ?_ | refine Zo ?_ | refine ok_seq ?_ | refine ok_reg ?_ | refine Zq ?_ | refine ok_exit ?_ | refine x_normal_then ?_ | refine x_exit_here ?_ | refine Zv ?_
        | refine x_normal_block ?_
      exact ⟨q + 1, ⟨hlt3, n2⟩, by (try simp only); omega, low_mk (Nat.le_of_ble_eq_true rfl) ⟨⟨rfl, rfl⟩, ⟨rfl, rfl⟩, ⟨rfl, rfl⟩, ⟨rfl, rfl⟩, ⟨rfl, rfl⟩, ⟨rfl, rfl⟩, ⟨rfl, rfl⟩, ⟨rfl, rfl⟩, ⟨rfl, rfl⟩, ⟨rfl, rfl⟩, ⟨rfl, rfl⟩, ⟨rfl, rfl⟩, trivial⟩ ⟨⟨rfl, rfl⟩, trivial⟩⟩
    · obtain ⟨hd5, hlt5⟩ := drop_some hc
      have er : decide ((r : Int) < (v.clock.length : Int)) = true := decide_eq_true (by omega)
      rw [hd5, List.all_cons] at n2
      cases he : nameI c.name with
      | false =>
        have ex : (!nameI c.name) = true := by rw [he]; rfl
        repeat' first
          | refine Z1 ?_ | refine Z2 ?_ | refine Z5 ?_ | refine Zc (name_ok _) ?_ | refine Ze ?_ | refine Zo ?_ | refine ok_seq ?_ | refine Zp ?_ | refine ok_block ?_ | refine ok_skip ?_ | refine ok_ret ?_ | refine x_normal_then ?_
          | refine x_ret_then ?_ | refine x_ret_block ?_ | refine Zt ?_
        exact ret_vb (by rw [← n2, he]; rfl)
      | true =>
        have ex : (!nameI c.name) = false := by rw [he]; rfl
        repeat' first
          | refine Z1 ?_ | refine Z2 ?_ | refine Z5 ?_ | refine Zc (name_ok _) ?_ | refine Ze ?_ | refine Zf ?_ | refine Zo ?_ | refine ok_seq ?_ | refine ok_reg ?_ | refine Zp ?_ | refine Zq ?_ | refine ok_block ?_ | refine ok_skip ?_
          | refine x_normal_then ?_ | refine x_normal_block ?_
        rw [he, Bool.true_and] at n2
        exact ⟨r + 1, ⟨hlt5, n2⟩, by (try simp only); omega, low_mk (Nat.le_of_ble_eq_true rfl) ⟨⟨rfl, rfl⟩, ⟨rfl, rfl⟩, ⟨rfl, rfl⟩, ⟨rfl, rfl⟩, ⟨rfl, rfl⟩, ⟨rfl, rfl⟩, ⟨rfl, rfl⟩, ⟨rfl, rfl⟩, ⟨rfl, rfl⟩, ⟨rfl, rfl⟩, ⟨rfl, rfl⟩, ⟨rfl, rfl⟩, ⟨rfl, rfl⟩, ⟨rfl, rfl⟩, ⟨rfl, rfl⟩, trivial⟩ ⟨⟨rfl, rfl⟩, trivial⟩⟩
  · have d1 : decide (v.type ≠ 1) = true := decide_eq_true (by omega)
    have d2 : decide (v.type ≠ 2) = false := decide_eq_false (by omega)
    have d3 : decide ((m : Int) < 2) = false := decide_eq_false c7
    repeat' first
      | refine Z1 ?_ | refine Z2 ?_ | refine Z5 ?_ | refine Z7 ?_ | refine Z8 ?_ | refine Zc (name_ok _) ?_ | refine Zd ?_ | refine Ze ?_ | refine Zh ?_ | refine Zi ?_ | refine Zl ?_ | refine Zm ?_ | refine Zo ?_ | refine ok_seq ?_
      | refine Zp ?_ | refine Zq ?_ | refine ok_block ?_ | refine ok_skip ?_ | refine x_normal_then ?_
    refine ok_for (ι := Nat) (fun x_ => envL [(2, vb false), (28, .d (.im (p.map eNod))), (29, vi p.length), (30, vi k), (4, .ref 1 0), (76, .d (.im ([x.ins, x.outs, x.vars].map eVrs))), (77, vi [x.ins, x.outs, x.vars].length), (78, vi m), (5, vi m), (83, .d (.im (g.map eVr))), (84, vi g.length), (85, vi q), (120, .d (.im (v.clock.map eCnd))), (121, vi v.clock.length), (122, vi x_)]) (fun x_ => stL [none, some (.var ((eNod x).map .d)), none, none]) (fun x_ => x_ ≤ v.clock.length ∧ (((((v.clock.drop x_).all fun c => nameI c.name) && (g.drop (q + 1)).all (vI m)) && grpI (m + 1) ([x.ins, x.outs, x.vars].drop (m + 1))) && x.eqs.all eqI && (p.drop (k + 1)).all nodI) = shapeI p) (fun x_ => v.clock.length - x_) 0 (⟨Nat.zero_le _, l2⟩) (weak_mk rfl ⟨.refl _, .refl _, .refl _, .refl _, .refl _, .refl _, .refl _, .refl _, .refl _, .refl _, .refl _, .refl _, .refl _, .refl _, .refl _, trivial⟩ ⟨⟨rfl, _, rfl, rfl, fun _ _ _ => .refl _⟩, trivial⟩) (fun _ => Nat.le_refl 4) ?_
    rintro r ⟨n1, n2⟩
    rcases hc : v.clock[r]? with _ | c
    · have hle := none_le hc
      have er : decide ((r : Int) < (v.clock.length : Int)) = false := decide_eq_false (by omega)
      rw [drop_none hc, List.all_nil, Bool.true_and] at n2
      repeat' first
        | refine Z1 ?_ | refine Z2 ?_ | refine Z5 ?_ | refine Zf ?_ | refine Zo ?_ | refine ok_seq ?_ | refine ok_reg ?_ | refine Zq ?_ | refine ok_exit ?_ | refine x_normal_then ?_ | refine x_exit_here ?_ | refine Zv ?_
        | refine x_normal_block ?_
      exact ⟨q + 1, ⟨hlt3, n2⟩, by (try simp only); omega, low_mk (Nat.le_of_ble_eq_true rfl) ⟨⟨rfl, rfl⟩, ⟨rfl, rfl⟩, ⟨rfl, rfl⟩, ⟨rfl, rfl⟩, ⟨rfl, rfl⟩, ⟨rfl, rfl⟩, ⟨rfl, rfl⟩, ⟨rfl, rfl⟩, ⟨rfl, rfl⟩, ⟨rfl, rfl⟩, ⟨rfl, rfl⟩, ⟨rfl, rfl⟩, trivial⟩ ⟨⟨rfl, rfl⟩, trivial⟩⟩
    · obtain ⟨hd5, hlt5⟩ := drop_some hc
      have er : decide ((r : Int) < (v.clock.length : Int)) = true := decide_eq_true (by omega)
      rw [hd5, List.all_cons] at n2
      cases he : nameI c.name with
      | false =>
        have ex : (!nameI c.name) = true := by rw [he]; rfl
        repeat' first
          | refine Z1 ?_ | refine Z2 ?_ | refine Z5 ?_ | refine Zc (name_ok _) ?_ | refine Ze ?_ | refine Zo ?_ | refine ok_seq ?_ | refine Zp ?_ | refine ok_block ?_ | refine ok_skip ?_ | refine ok_ret ?_ | refine x_normal_then ?_
          | refine x_ret_then ?_ | refine x_ret_block ?_ | refine Zt ?_
        exact ret_vb (by rw [← n2, he]; rfl)
      | true =>
        have ex : (!nameI c.name) = false := by rw [he]; rfl
        repeat' first
          | refine Z1 ?_ | refine Z2 ?_ | refine Z5 ?_ | refine Zc (name_ok _) ?_ | refine Ze ?_ | refine Zf ?_ | refine Zo ?_ | refine ok_seq ?_ | refine ok_reg ?_ | refine Zp ?_ | refine Zq ?_ | refine ok_block ?_ | refine ok_skip ?_
          | refine x_normal_then ?_ | refine x_normal_block ?_
        rw [he, Bool.true_and] at n2
        exact ⟨r + 1, ⟨hlt5, n2⟩, by (try simp only); omega, low_mk (Nat.le_of_ble_eq_true rfl) ⟨⟨rfl, rfl⟩, ⟨rfl, rfl⟩, ⟨rfl, rfl⟩, ⟨rfl, rfl⟩, ⟨rfl, rfl⟩, ⟨rfl, rfl⟩, ⟨rfl, rfl⟩, ⟨rfl, rfl⟩, ⟨rfl, rfl⟩, ⟨rfl, rfl⟩, ⟨rfl, rfl⟩, ⟨rfl, rfl⟩, ⟨rfl, rfl⟩, ⟨rfl, rfl⟩, ⟨rfl, rfl⟩, trivial⟩ ⟨⟨rfl, rfl⟩, trivial⟩⟩
end Go.Pm
set_option linter.unusedVariables false
set_option linter.unusedSimpArgs false
namespace Go.Pm
attribute [local irreducible] AR Ok inBlock andThen endQ aoper
set_option maxHeartbeats 1000000
open Go.Proofs
def varsS (x : Nod) : List Vr := x.ins ++ x.outs ++ x.vars
theorem svars_ok (x : Nod) (hw : wNod x ≤ 1048576) : PFun X 37 [.agg ((eNod x).map .d)] (.d (.im ((varsS x).map eVr))) := by
  simp only [wNod, wL] at hw
  refine pfun_of Tryd.func37 rfl (by decide) Tryd.ntmps37 Tryd.results37 (by simp) rfl rfl ?_
  repeat' first
    | refine Z1 ?_ | refine Z2 ?_ | refine Z5 ?_ | refine op_bslice rfl rfl rfl rfl rfl rfl rfl ?_
    | refine op_append (e := eVr) (l := []) (m := x.ins) rfl rfl rfl rfl rfl rfl rfl rfl rfl rfl rfl rfl rfl (fun _ => rfl) (by first | omega | (simp; omega)) rfl ?_
    | refine op_append (e := eVr) (l := [] ++ x.ins) (m := x.outs) rfl rfl rfl rfl rfl rfl rfl rfl rfl rfl rfl rfl rfl (fun _ => rfl) (by first | omega | (simp; omega)) rfl ?_
    | refine op_append (e := eVr) (l := [] ++ x.ins ++ x.outs) (m := x.vars) rfl rfl rfl rfl rfl rfl rfl rfl rfl rfl rfl rfl rfl (fun _ => rfl) (by first | omega | (simp; omega)) rfl ?_
    | refine fz_rows (e := eVr) (l := varsS x) rfl 2 rfl rfl rfl ?_ | refine Zo ?_ | refine ok_ret ?_ | refine Zt ?_
  rfl
def oneS (c : List Itm) : Bool := codeS c 3000 && c.all fun t => !decide (t.op = 25)
def eqS (x : Eqn) : Bool :=
  if !x.lhs.all nameS then false
  else if (x.lhs.length : Int) < 1 ∨ 500 < (x.lhs.length : Int) ∨ 500 < (x.args.length : Int) then false
  else if x.call = ⟨#[]⟩ then (if (x.lhs.length : Int) ≠ 1 ∨ (x.args.length : Int) ≠ 0 then false else [x.code].all oneS)
  else if !nameS x.call || decide ((x.code.length : Int) ≠ 0) then false else x.args.all oneS
theorem eqS_tail {x : Eqn} (h : x.lhs.all nameS = true) : eqS x = if (x.lhs.length : Int) < 1 ∨ 500 < (x.lhs.length : Int) ∨ 500 < (x.args.length : Int) then false
  else if x.call = ⟨#[]⟩ then (if (x.lhs.length : Int) ≠ 1 ∨ (x.args.length : Int) ≠ 0 then false else [x.code].all oneS)
  else if !nameS x.call || decide ((x.code.length : Int) ≠ 0) then false else x.args.all oneS := by unfold eqS; rw [h]; rfl
theorem seq_ok (x0 : Eqn) (hw : wEqn x0 ≤ 1048576) : PFun X 39 [.agg ((eEqn x0).map .d)] (vb (eqS x0)) := by
  have hw1 : x0.lhs.length ≤ 1048576 := by simp only [wEqn, wL] at hw; omega
  have hw2 : x0.args.length ≤ 1048576 := by simp only [wEqn, wL] at hw; omega
  have hw3 : x0.code.length ≤ 1048576 := by simp only [wEqn, wL] at hw; omega
  have hw4 : ∀ c ∈ x0.args, c.length ≤ 1048576 := by
    intro c hc
    have := wL_mem (w := wL wItm) hc
    simp only [wEqn, wL] at hw this
    omega
  refine pfun_of Tryd.func39 rfl (by decide) Tryd.ntmps39 Tryd.results39 (by simp) rfl rfl ?_
  repeat' first
    | refine Z1 ?_ | refine Z2 ?_ | refine Z5 ?_ | refine Zd ?_ | refine Zo ?_ | refine ok_seq ?_ | refine ok_block ?_
  refine ok_for (ι := Nat) (fun x => envL [(2, vb false), (1, .ref 0 0), (11, .d (.im (x0.lhs.map eStr))), (12, vi x0.lhs.length), (13, vi x)]) (fun x => stL [some (.var ((eEqn x0).map .d))]) (fun x => x ≤ x0.lhs.length ∧ ((x0.lhs.drop x).all nameS = true → x0.lhs.all nameS = true) ∧ ((x0.lhs.drop x).all nameS = false → x0.lhs.all nameS = false)) (fun x => x0.lhs.length - x) 0 (⟨Nat.zero_le _, id, id⟩) (weak_mk rfl ⟨.refl _, .refl _, .refl _, .refl _, .refl _, trivial⟩ ⟨⟨rfl, _, rfl, rfl, fun _ _ _ => .refl _⟩, trivial⟩) (fun _ => Nat.le_refl 1) ?_
  rintro k ⟨i1, i2, i3⟩
  rcases hx : x0.lhs[k]? with _ | s
  · have hle := none_le hx
    have ek : decide ((k : Int) < (x0.lhs.length : Int)) = false := decide_eq_false (by omega)
    rw [drop_none hx] at i2 i3
    have hnm := i2 rfl
    by_cases hbad : (x0.lhs.length : Int) < 1 ∨ 500 < (x0.lhs.length : Int) ∨ 500 < (x0.args.length : Int)
    · have hn : eqS x0 = false := by rw [eqS_tail hnm, if_pos hbad]
      repeat' first
        | refine Z1 ?_ | refine Z2 ?_ | refine Z4 ?_ | refine Z5 ?_ | refine Z7 ?_ | refine Z9 ?_ | refine Zb (fun hc => ?_) (fun hc => ?_) | refine Zd ?_ | refine Zh ?_ | refine Zi ?_ | refine Zl ?_ | refine Zm ?_ | refine Zo ?_
        | refine ok_seq ?_ | refine ok_reg ?_ | refine Zp ?_ | refine Zq ?_ | refine Zr (fun hc => ?_) (fun hc => ?_) | refine ok_exit ?_ | refine ok_skip ?_ | refine ok_ret ?_ | refine x_normal_then ?_ | refine x_exit_here ?_ | refine Zv ?_
        | refine x_ret_then ?_ | refine Zt ?_
      all_goals simp only [decide_eq_true_eq, decide_eq_false_iff_not, Bool.not_eq_true, Bool.not_eq_false, Bool.not_eq_eq_eq_not, Bool.not_true, Bool.not_false] at *
      all_goals first
        | exact ret_vb hn.symm
        | (exfalso; omega)
    have b1 : decide ((x0.lhs.length : Int) < 1) = false := decide_eq_false (by omega)
    have b2 : decide (500 < (x0.lhs.length : Int)) = false := decide_eq_false (by omega)
    have b3 : decide (500 < (x0.args.length : Int)) = false := decide_eq_false (by omega)
    by_cases hcall : x0.call = ⟨#[]⟩
    · have b4 : decide (x0.call = ⟨#[]⟩) = true := decide_eq_true hcall
      by_cases hb2 : (x0.lhs.length : Int) ≠ 1 ∨ (x0.args.length : Int) ≠ 0
      · have hn : eqS x0 = false := by rw [eqS_tail hnm, if_neg hbad, if_pos hcall, if_pos hb2]
        repeat' first
          | refine Z1 ?_ | refine Z2 ?_ | refine Z4 ?_ | refine Z5 ?_ | refine Z7 ?_ | refine Z9 ?_ | refine Zb (fun hc => ?_) (fun hc => ?_) | refine Zd ?_ | refine Zh ?_ | refine Zi ?_ | refine Zl ?_ | refine Zm ?_ | refine Zo ?_
          | refine ok_seq ?_ | refine ok_reg ?_ | refine Zp ?_ | refine Zq ?_ | refine Zr (fun hc => ?_) (fun hc => ?_) | refine ok_exit ?_ | refine ok_skip ?_ | refine ok_ret ?_ | refine x_normal_then ?_ | refine x_exit_here ?_ | refine Zv ?_
          | refine x_ret_then ?_ | refine Zt ?_
        all_goals simp only [decide_eq_true_eq, decide_eq_false_iff_not, Bool.not_eq_true, Bool.not_eq_false, Bool.not_eq_eq_eq_not, Bool.not_true, Bool.not_false] at *
        all_goals first
          | exact ret_vb hn.symm
          | (exfalso; omega)
      · have b5 : decide ((x0.lhs.length : Int) ≠ 1) = false := decide_eq_false (by omega)
        have b6 : decide ((x0.args.length : Int) ≠ 0) = false := decide_eq_false (by omega)
        have hn : eqS x0 = [x0.code].all oneS := by rw [eqS_tail hnm, if_neg hbad, if_pos hcall, if_neg hb2]
        have hal0 : [x0.code].length ≤ 1048576 := by simp
        have hal : ∀ c ∈ [x0.code], c.length ≤ 1048576 := by intro c hc; simp only [List.mem_singleton] at hc; rw [hc]; exact hw3
        repeat' first
          | refine Z1 ?_ | refine Z2 ?_ | refine Z4 ?_ | refine Z5 ?_ | refine Z7 ?_ | refine op_len (e := eItms) (l := [x0.code]) rfl rfl rfl rfl rfl ?_ | refine Zd ?_ | refine Zh ?_ | refine Zi ?_ | refine Zm ?_ | refine Zo ?_
          | refine ok_seq ?_ | refine ok_reg ?_ | refine Zp ?_ | refine Zq ?_ | refine ok_block ?_ | refine ok_exit ?_ | refine ok_skip ?_ | refine x_normal_then ?_ | refine x_exit_here ?_ | refine Zv ?_
        refine ok_for (ι := Nat) (fun x => envL [(2, vb false), (65, .d (.im ([x0.code].map eItms))), (66, vi [x0.code].length), (67, vi x)]) (fun x => stL [none, none]) (fun x => x ≤ [x0.code].length ∧ ([x0.code].drop x).all oneS = eqS x0) (fun x => [x0.code].length - x) 0 (⟨Nat.zero_le _, by rw [List.drop_zero]; exact hn.symm⟩) (weak_mk rfl ⟨.refl _, .refl _, .refl _, .refl _, trivial⟩ trivial) (fun _ => Nat.le_refl 2) ?_
        rintro k ⟨i1, i2⟩
        rcases hx : ([x0.code])[k]? with _ | c
        · have hle := none_le hx
          have ek : decide ((k : Int) < ([x0.code].length : Int)) = false := decide_eq_false (by omega)
          rw [drop_none hx] at i2
          repeat' first
            | refine Z1 ?_ | refine Z2 ?_ | refine Zo ?_ | refine ok_seq ?_ | refine Zq ?_ | refine ok_exit ?_ | refine ok_ret ?_ | refine x_normal_then ?_ | refine x_exit_here ?_ | refine Zv ?_ | refine Zt ?_
          exact ret_vb i2
        · obtain ⟨hd, hlt⟩ := drop_some hx
          have ek : decide ((k : Int) < ([x0.code].length : Int)) = true := decide_eq_true (by omega)
          have hc := hal c (List.mem_of_getElem? hx)
          rw [hd, List.all_cons] at i2
          cases hco : codeS c 3000 with
          | false =>
            have ex : (!codeS c 3000) = true := by rw [hco]; rfl
            repeat' first
              | refine Z1 ?_ | refine Z2 ?_ | refine Z5 ?_ | refine Zc (scode_ok c 3000 hc) ?_ | refine Ze ?_ | refine Zo ?_ | refine ok_seq ?_ | refine Zp ?_ | refine ok_block ?_ | refine ok_skip ?_ | refine ok_ret ?_
              | refine x_normal_then ?_ | refine x_ret_then ?_ | refine x_ret_block ?_ | refine Zt ?_
            exact ret_vb (by rw [← i2]; simp [oneS, hco])
          | true =>
            have ex : (!codeS c 3000) = false := by rw [hco]; rfl
            repeat' first
              | refine Z1 ?_ | refine Z2 ?_ | refine Z5 ?_ | refine Zc (scode_ok c 3000 hc) ?_ | refine Zd ?_ | refine Ze ?_ | refine Zo ?_ | refine ok_seq ?_ | refine Zp ?_ | refine Zq ?_ | refine ok_block ?_ | refine ok_skip ?_
              | refine x_normal_then ?_
            refine ok_for (ι := Nat) (fun x => envL [(2, vb false), (65, .d (.im ([x0.code].map eItms))), (66, vi [x0.code].length), (67, vi k), (74, .d (.im (c.map eItm))), (75, vi c.length), (76, vi x)]) (fun x => stL [none, none]) (fun x => x ≤ c.length ∧ ((c.drop x).all (fun t => !decide (t.op = 25)) && ([x0.code].drop (k + 1)).all oneS) = eqS x0) (fun x => c.length - x) 0 (⟨Nat.zero_le _, by rw [← i2]; simp [oneS, hco]⟩) (weak_mk rfl ⟨.refl _, .refl _, .refl _, .refl _, .refl _, .refl _, .refl _, trivial⟩ trivial) (fun _ => Nat.le_refl 2) ?_
            rintro q ⟨j1, j2⟩
            rcases hy : c[q]? with _ | t
            · have hle := none_le hy
              have eq : decide ((q : Int) < (c.length : Int)) = false := decide_eq_false (by omega)
              rw [drop_none hy, List.all_nil, Bool.true_and] at j2
              repeat' first
                | refine Z1 ?_ | refine Z2 ?_ | refine Z5 ?_ | refine Zf ?_ | refine Zo ?_ | refine ok_seq ?_ | refine ok_reg ?_ | refine Zq ?_ | refine ok_exit ?_ | refine x_normal_then ?_ | refine x_exit_here ?_ | refine Zv ?_
                | refine x_normal_block ?_
              exact ⟨k + 1, ⟨hlt, j2⟩, by (try simp only); omega, low_mk (Nat.le_of_ble_eq_true rfl) ⟨⟨rfl, rfl⟩, ⟨rfl, rfl⟩, ⟨rfl, rfl⟩, ⟨rfl, rfl⟩, trivial⟩ trivial⟩
            · obtain ⟨hd2, hlt2⟩ := drop_some hy
              have eq : decide ((q : Int) < (c.length : Int)) = true := decide_eq_true (by omega)
              rw [hd2, List.all_cons] at j2
              cases ht : decide (t.op = 25) with
              | true =>
                repeat' first
                  | refine Z1 ?_ | refine Z2 ?_ | refine Z5 ?_ | refine Ze ?_ | refine Zo ?_ | refine ok_seq ?_ | refine Zp ?_ | refine ok_block ?_ | refine ok_skip ?_ | refine ok_ret ?_ | refine x_normal_then ?_ | refine x_ret_then ?_
                  | refine x_ret_block ?_ | refine Zt ?_
                exact ret_vb (by rw [← j2, ht]; rfl)
              | false =>
                repeat' first
                  | refine Z1 ?_ | refine Z2 ?_ | refine Z5 ?_ | refine Ze ?_ | refine Zf ?_ | refine Zo ?_ | refine ok_seq ?_ | refine ok_reg ?_ | refine Zp ?_ | refine Zq ?_ | refine ok_block ?_ | refine ok_skip ?_ | refine x_normal_then ?_
                  | refine x_normal_block ?_
                rw [ht, Bool.not_false, Bool.true_and] at j2
                exact ⟨q + 1, ⟨hlt2, j2⟩, by (try simp only); omega, low_mk (Nat.le_of_ble_eq_true rfl) ⟨⟨rfl, rfl⟩, ⟨rfl, rfl⟩, ⟨rfl, rfl⟩, ⟨rfl, rfl⟩, ⟨rfl, rfl⟩, ⟨rfl, rfl⟩, ⟨rfl, rfl⟩, trivial⟩ trivial⟩
    · have b4 : decide (x0.call = ⟨#[]⟩) = false := decide_eq_false hcall
      cases hnc : nameS x0.call with
      | false =>
        have b5 : (!nameS x0.call) = true := by rw [hnc]; rfl
        have hn : eqS x0 = false := by rw [eqS_tail hnm, if_neg hbad, if_neg hcall, hnc]; rfl
        repeat' first
          | refine Z1 ?_ | refine Z2 ?_ | refine Z5 ?_ | refine Z7 ?_ | refine Z9 ?_ | refine Zc (sname_ok _) ?_ | refine Zd ?_ | refine Zh ?_ | refine Zi ?_ | refine Zl ?_ | refine Zm ?_ | refine Zo ?_ | refine ok_seq ?_ | refine Zp ?_
          | refine Zq ?_ | refine ok_exit ?_ | refine ok_skip ?_ | refine ok_ret ?_ | refine x_normal_then ?_ | refine x_exit_here ?_ | refine Zv ?_ | refine x_ret_then ?_ | refine Zt ?_
        exact ret_vb hn.symm
      | true =>
        have b5 : (!nameS x0.call) = false := by rw [hnc]; rfl
        by_cases hcd : (x0.code.length : Int) ≠ 0
        · have b6 : decide ((x0.code.length : Int) ≠ 0) = true := decide_eq_true hcd
          have hn : eqS x0 = false := by rw [eqS_tail hnm, if_neg hbad, if_neg hcall, hnc, b6]; rfl
          repeat' first
            | refine Z1 ?_ | refine Z2 ?_ | refine Z5 ?_ | refine Z7 ?_ | refine Zc (sname_ok _) ?_ | refine Zd ?_ | refine Zh ?_ | refine Zi ?_ | refine Zm ?_ | refine Zo ?_ | refine ok_seq ?_ | refine Zp ?_ | refine Zq ?_ | refine ok_exit ?_
            | refine ok_skip ?_ | refine ok_ret ?_ | refine x_normal_then ?_ | refine x_exit_here ?_ | refine Zv ?_ | refine x_ret_then ?_ | refine Zt ?_
          exact ret_vb hn.symm
        · have b6 : decide ((x0.code.length : Int) ≠ 0) = false := decide_eq_false hcd
          have hn : eqS x0 = x0.args.all oneS := by rw [eqS_tail hnm, if_neg hbad, if_neg hcall, hnc, b6]; rfl
          have hal := hw4
          repeat' first
            | refine Z1 ?_ | refine Z2 ?_ | refine Z5 ?_ | refine Z7 ?_ | refine Zc (sname_ok _) ?_ | refine Zd ?_ | refine Zh ?_ | refine Zi ?_ | refine Zm ?_ | refine Zo ?_ | refine ok_seq ?_ | refine Zq ?_ | refine ok_block ?_
            | refine ok_exit ?_ | refine ok_skip ?_ | refine x_normal_then ?_ | refine x_exit_here ?_ | refine Zv ?_
          refine ok_for (ι := Nat) (fun x => envL [(2, vb false), (65, .d (.im (x0.args.map eItms))), (66, vi x0.args.length), (67, vi x)]) (fun x => stL [none]) (fun x => x ≤ x0.args.length ∧ (x0.args.drop x).all oneS = eqS x0) (fun x => x0.args.length - x) 0 (⟨Nat.zero_le _, by rw [List.drop_zero]; exact hn.symm⟩) (weak_mk rfl ⟨.refl _, .refl _, .refl _, .refl _, trivial⟩ trivial) (fun _ => Nat.le_refl 1) ?_
          rintro k ⟨i1, i2⟩
          rcases hx : (x0.args)[k]? with _ | c
          · have hle := none_le hx
            have ek : decide ((k : Int) < (x0.args.length : Int)) = false := decide_eq_false (by omega)
            rw [drop_none hx] at i2
            repeat' first
              | refine Z1 ?_ | refine Z2 ?_ | refine Zo ?_ | refine ok_seq ?_ | refine Zq ?_ | refine ok_exit ?_ | refine ok_ret ?_ | refine x_normal_then ?_ | refine x_exit_here ?_ | refine Zv ?_ | refine Zt ?_
            exact ret_vb i2
          · obtain ⟨hd, hlt⟩ := drop_some hx
            have ek : decide ((k : Int) < (x0.args.length : Int)) = true := decide_eq_true (by omega)
            have hc := hal c (List.mem_of_getElem? hx)
            rw [hd, List.all_cons] at i2
            cases hco : codeS c 3000 with
            | false =>
              have ex : (!codeS c 3000) = true := by rw [hco]; rfl
              repeat' first
                | refine Z1 ?_ | refine Z2 ?_ | refine Z5 ?_ | refine Zc (scode_ok c 3000 hc) ?_ | refine Ze ?_ | refine Zo ?_ | refine ok_seq ?_ | refine Zp ?_ | refine ok_block ?_ | refine ok_skip ?_ | refine ok_ret ?_
                | refine x_normal_then ?_ | refine x_ret_then ?_ | refine x_ret_block ?_ | refine Zt ?_
              exact ret_vb (by rw [← i2]; simp [oneS, hco])
            | true =>
              have ex : (!codeS c 3000) = false := by rw [hco]; rfl
              repeat' first
                | refine Z1 ?_ | refine Z2 ?_ | refine Z5 ?_ | refine Zc (scode_ok c 3000 hc) ?_ | refine Zd ?_ | refine Ze ?_ | refine Zo ?_ | refine ok_seq ?_ | refine Zp ?_ | refine Zq ?_ | refine ok_block ?_ | refine ok_skip ?_
                | refine x_normal_then ?_
              refine ok_for (ι := Nat) (fun x => envL [(2, vb false), (65, .d (.im (x0.args.map eItms))), (66, vi x0.args.length), (67, vi k), (74, .d (.im (c.map eItm))), (75, vi c.length), (76, vi x)]) (fun x => stL [none]) (fun x => x ≤ c.length ∧ ((c.drop x).all (fun t => !decide (t.op = 25)) && (x0.args.drop (k + 1)).all oneS) = eqS x0) (fun x => c.length - x) 0 (⟨Nat.zero_le _, by rw [← i2]; simp [oneS, hco]⟩) (weak_mk rfl ⟨.refl _, .refl _, .refl _, .refl _, .refl _, .refl _, .refl _, trivial⟩ trivial) (fun _ => Nat.le_refl 1) ?_
              rintro q ⟨j1, j2⟩
              rcases hy : c[q]? with _ | t
              · have hle := none_le hy
                have eq : decide ((q : Int) < (c.length : Int)) = false := decide_eq_false (by omega)
                rw [drop_none hy, List.all_nil, Bool.true_and] at j2
                repeat' first
                  | refine Z1 ?_ | refine Z2 ?_ | refine Z5 ?_ | refine Zf ?_ | refine Zo ?_ | refine ok_seq ?_ | refine ok_reg ?_ | refine Zq ?_ | refine ok_exit ?_ | refine x_normal_then ?_ | refine x_exit_here ?_ | refine Zv ?_
                  | refine x_normal_block ?_
                exact ⟨k + 1, ⟨hlt, j2⟩, by (try simp only); omega, low_mk (Nat.le_of_ble_eq_true rfl) ⟨⟨rfl, rfl⟩, ⟨rfl, rfl⟩, ⟨rfl, rfl⟩, ⟨rfl, rfl⟩, trivial⟩ trivial⟩
              · obtain ⟨hd2, hlt2⟩ := drop_some hy
                have eq : decide ((q : Int) < (c.length : Int)) = true := decide_eq_true (by omega)
                rw [hd2, List.all_cons] at j2
                cases ht : decide (t.op = 25) with
                | true =>
                  repeat' first
                    | refine Z1 ?_ | refine Z2 ?_ | refine Z5 ?_ | refine Ze ?_ | refine Zo ?_ | refine ok_seq ?_ | refine Zp ?_ | refine ok_block ?_ | refine ok_skip ?_ | refine ok_ret ?_ | refine x_normal_then ?_ | refine x_ret_then ?_
                    | refine x_ret_block ?_ | refine Zt ?_
                  exact ret_vb (by rw [← j2, ht]; rfl)
                | false =>
                  repeat' first
                    | refine Z1 ?_ | refine Z2 ?_ | refine Z5 ?_ | refine Ze ?_ | refine Zf ?_ | refine Zo ?_ | refine ok_seq ?_ | refine ok_reg ?_ | refine Zp ?_ | refine Zq ?_ | refine ok_block ?_ | refine ok_skip ?_
                    | refine x_normal_then ?_ | refine x_normal_block ?_
                  rw [ht, Bool.not_false, Bool.true_and] at j2
                  exact ⟨q + 1, ⟨hlt2, j2⟩, by (try simp only); omega, low_mk (Nat.le_of_ble_eq_true rfl) ⟨⟨rfl, rfl⟩, ⟨rfl, rfl⟩, ⟨rfl, rfl⟩, ⟨rfl, rfl⟩, ⟨rfl, rfl⟩, ⟨rfl, rfl⟩, ⟨rfl, rfl⟩, trivial⟩ trivial⟩
  · obtain ⟨hd, hlt⟩ := drop_some hx
    have ek : decide ((k : Int) < (x0.lhs.length : Int)) = true := decide_eq_true (by omega)
    rw [hd, List.all_cons] at i2 i3
    cases hs : nameS s with
    | false =>
      have es : (!nameS s) = true := by rw [hs]; rfl
      have hn : eqS x0 = false := by unfold eqS; rw [i3 (by rw [hs]; rfl)]; rfl
      repeat' first
        | refine Z1 ?_ | refine Z2 ?_ | refine Z5 ?_ | refine Zc (sname_ok s) ?_ | refine Ze ?_ | refine Zo ?_ | refine ok_seq ?_ | refine Zp ?_ | refine ok_block ?_ | refine ok_skip ?_ | refine ok_ret ?_ | refine x_normal_then ?_
        | refine x_ret_then ?_ | refine x_ret_block ?_ | refine Zt ?_
      exact ret_vb hn.symm
    | true =>
      have es : (!nameS s) = false := by rw [hs]; rfl
      repeat' first
        | refine Z1 ?_ | refine Z2 ?_ | refine Z5 ?_ | refine Zc (sname_ok s) ?_ | refine Ze ?_ | refine Zf ?_ | refine Zo ?_ | refine ok_seq ?_ | refine ok_reg ?_ | refine Zp ?_ | refine Zq ?_ | refine ok_block ?_ | refine ok_skip ?_
        | refine x_normal_then ?_ | refine x_normal_block ?_
      rw [hs, Bool.true_and] at i2 i3
      exact ⟨k + 1, ⟨hlt, i2, i3⟩, by (try simp only); omega, low_mk (Nat.le_of_ble_eq_true rfl) ⟨⟨rfl, rfl⟩, ⟨rfl, rfl⟩, ⟨rfl, rfl⟩, ⟨rfl, rfl⟩, ⟨rfl, rfl⟩, trivial⟩ ⟨⟨rfl, rfl⟩, trivial⟩⟩
end Go.Pm
set_option linter.unusedVariables false
set_option linter.unusedSimpArgs false
namespace Go.Pm
attribute [local irreducible] AR Ok inBlock andThen endQ aoper
set_option maxHeartbeats 1000000
open Go.Proofs
def vS (m : Nat) (k : Nat) (v : Vr) : Bool :=
  if (!nameS v.name) = true ∨ v.type < 1 ∨ 2 < v.type ∨ 8 < (v.clock.length : Int) then false
  else if (k : Int) < m ∧ 0 < (v.clock.length : Int) then false else v.clock.all fun c => nameS c.name
def vsS (m : Nat) : Nat → List Vr → Bool
  | _, [] => true
  | k, v :: l => vS m k v && vsS m (k + 1) l
def nodS (x : Nod) : Bool :=
  if (!nameS x.name) = true ∨ (x.outs.length : Int) < 1 ∨ 500 < ((varsS x).length : Int) ∨ (x.eqs.length : Int) < 1 ∨ 500 < (x.eqs.length : Int) then false
  else vsS (x.ins.length + x.outs.length) 0 (varsS x) && x.eqs.all eqS
def shapeS (p : List Nod) : Bool := if (p.length : Int) < 1 ∨ 200 < (p.length : Int) then false else p.all nodS
set_option maxHeartbeats 4000000 in
theorem sshape_ok (p : List Nod) (hw : wL wNod p ≤ 1048576) : PFun X 13 [.agg [.d (.im (p.map eNod))]] (vb (shapeS p)) := by
  have hpl : p.length ≤ 1048576 := by simp only [wL] at hw; omega
  refine pfun_of Tryd.func13 rfl (by decide) Tryd.ntmps13 Tryd.results13 (by simp) rfl rfl ?_
  by_cases hbad : (p.length : Int) < 1 ∨ 200 < (p.length : Int)
  · have hn : shapeS p = false := by simp only [shapeS, hbad, if_true]
    repeat' first
      | refine Z1 ?_ | refine Z2 ?_ | refine Z5 ?_ | refine Z7 ?_ | refine Z9 ?_ | refine Zb (fun hc => ?_) (fun hc => ?_) | refine Zd ?_ | refine Zh ?_ | refine Zi ?_ | refine Zl ?_ | refine Zm ?_ | refine Zo ?_ | refine ok_seq ?_
      | refine Zp ?_ | refine Zr (fun hc => ?_) (fun hc => ?_) | refine ok_block ?_ | refine ok_skip ?_ | refine ok_ret ?_ | refine x_normal_then ?_ | refine x_ret_then ?_ | refine Zt ?_
    all_goals simp only [decide_eq_true_eq, decide_eq_false_iff_not, Bool.not_eq_true, Bool.not_eq_false, Bool.not_eq_eq_eq_not, Bool.not_true, Bool.not_false] at *
    all_goals first
      | exact ret_vb hn.symm
      | (exfalso; omega)
  have a1 : decide ((p.length : Int) < 1) = false := decide_eq_false (by omega)
  have a2 : decide (200 < (p.length : Int)) = false := decide_eq_false (by omega)
  have hn : shapeS p = p.all nodS := by simp only [shapeS, hbad, if_false]
  repeat' first
    | refine Z1 ?_ | refine Z2 ?_ | refine Z5 ?_ | refine Z7 ?_ | refine Zd ?_ | refine Zh ?_ | refine Zi ?_ | refine Zm ?_ | refine Zo ?_ | refine ok_seq ?_ | refine Zq ?_ | refine ok_block ?_ | refine ok_skip ?_ | refine x_normal_then ?_
  refine ok_for (ι := Nat) (fun x => envL [(2, vb false), (23, .d (.im (p.map eNod))), (24, vi p.length), (25, vi x)]) (fun x => stL [none]) (fun x => x ≤ p.length ∧ (p.drop x).all nodS = shapeS p) (fun x => p.length - x) 0 (⟨Nat.zero_le _, hn.symm⟩) (weak_mk rfl ⟨.refl _, .refl _, .refl _, .refl _, trivial⟩ trivial) (fun _ => Nat.le_refl 1) ?_
  rintro k ⟨i1, i2⟩
  rcases hx : p[k]? with _ | x
  · have hle := none_le hx
    have ek : decide ((k : Int) < (p.length : Int)) = false := decide_eq_false (by omega)
    rw [drop_none hx] at i2
    repeat' first
      | refine Z1 ?_ | refine Z2 ?_ | refine Zo ?_ | refine ok_seq ?_ | refine Zq ?_ | refine ok_exit ?_ | refine ok_ret ?_ | refine x_normal_then ?_ | refine x_exit_here ?_ | refine Zv ?_ | refine Zt ?_
    exact ret_vb i2
  obtain ⟨hd, hlt⟩ := drop_some hx
  have ek : decide ((k : Int) < (p.length : Int)) = true := decide_eq_true (by omega)
  have hwx := wL_mem (w := wNod) (List.mem_of_getElem? hx)
  have hwx1 : wNod x ≤ 1048576 := by simp only [wL] at hw; omega
  have hwx2 := hwx1
  simp only [wNod, wL] at hwx2
  rw [hd, List.all_cons] at i2
  by_cases hhd : (!nameS x.name) = true ∨ (x.outs.length : Int) < 1 ∨ 500 < ((varsS x).length : Int) ∨ (x.eqs.length : Int) < 1 ∨ 500 < (x.eqs.length : Int)
  · have hnx : nodS x = false := by simp only [nodS, hhd, if_true]
    have hres : false = shapeS p := by rw [← i2, hnx]; rfl
    repeat' first
      | refine Z1 ?_ | refine Z2 ?_ | refine Z5 ?_ | refine Z7 ?_ | refine Z9 ?_ | refine Zb (fun hc => ?_) (fun hc => ?_) | refine Zc (svars_ok x hwx1) ?_ | refine Zc (sname_ok _) ?_ | refine Zd ?_ | refine Ze ?_ | refine Zh ?_ | refine Zi ?_
      | refine Zl ?_ | refine Zm ?_ | refine Zo ?_ | refine ok_seq ?_ | refine Zp ?_ | refine Zr (fun hc => ?_) (fun hc => ?_) | refine ok_block ?_ | refine ok_skip ?_ | refine ok_ret ?_ | refine x_normal_then ?_ | refine x_ret_then ?_
      | refine x_ret_block ?_ | refine Zt ?_
    all_goals simp only [decide_eq_true_eq, decide_eq_false_iff_not, Bool.not_eq_true, Bool.not_eq_false, Bool.not_eq_eq_eq_not, Bool.not_true, Bool.not_false] at *
    all_goals first
      | exact ret_vb hres
      | (exfalso; simp_all; done)
      | (exfalso; simp_all; omega)
  have b1 : (!nameS x.name) = false := by cases hq : (!nameS x.name) with | false => rfl | true => exact absurd (.inl hq) hhd
  have b2 : decide ((x.outs.length : Int) < 1) = false := decide_eq_false (fun h => hhd (.inr (.inl h)))
  have b3 : decide (500 < ((varsS x).length : Int)) = false := decide_eq_false (fun h => hhd (.inr (.inr (.inl h))))
  have b4 : decide ((x.eqs.length : Int) < 1) = false := decide_eq_false (fun h => hhd (.inr (.inr (.inr (.inl h)))))
  have b5 : decide (500 < (x.eqs.length : Int)) = false := decide_eq_false (fun h => hhd (.inr (.inr (.inr (.inr h)))))
  have hnx : nodS x = (vsS (x.ins.length + x.outs.length) 0 (varsS x) && x.eqs.all eqS) := by simp only [nodS, hhd, if_false]
  have hvl : (varsS x).length ≤ 500 := by have := of_decide_eq_false b3; omega
  rw [hnx] at i2
  repeat' first
    | refine Z1 ?_ | refine Z2 ?_ | refine Z5 ?_ | refine Z7 ?_ | refine Zc (svars_ok x hwx1) ?_ | refine Zc (sname_ok _) ?_ | refine Zd ?_ | refine Ze ?_ | refine Zh ?_ | refine Zi ?_ | refine Zm ?_ | refine Zo ?_ | refine ok_seq ?_
    | refine Zp ?_ | refine Zq ?_ | refine ok_block ?_ | refine ok_skip ?_ | refine x_normal_then ?_
  refine ok_for (ι := Nat) (fun x_ => envL [(2, vb false), (23, .d (.im (p.map eNod))), (24, vi p.length), (25, vi k), (4, .ref 1 0), (58, .d (.im ((varsS x).map eVr))), (59, vi (varsS x).length), (60, vi x_)]) (fun x_ => stL [none, some (.var ((eNod x).map .d))]) (fun x_ => x_ ≤ (varsS x).length ∧ ((vsS (x.ins.length + x.outs.length) x_ ((varsS x).drop x_) && x.eqs.all eqS) && (p.drop (k + 1)).all nodS) = shapeS p) (fun x_ => (varsS x).length - x_) 0 (⟨Nat.zero_le _, i2⟩) (weak_mk rfl ⟨.refl _, .refl _, .refl _, .refl _, .refl _, .refl _, .refl _, .refl _, trivial⟩ ⟨⟨rfl, _, rfl, rfl, fun _ _ _ => .refl _⟩, trivial⟩) (fun _ => Nat.le_refl 2) ?_
  rintro q ⟨j1, j2⟩
  rcases hy : (varsS x)[q]? with _ | v
  · have hle := none_le hy
    have eq : decide ((q : Int) < ((varsS x).length : Int)) = false := decide_eq_false (by omega)
    rw [drop_none hy] at j2
    simp only [vsS, Bool.true_and] at j2
    repeat' first
      | refine Z1 ?_ | refine Z2 ?_ | refine Z5 ?_ | refine Zd ?_ | refine Zo ?_ | refine ok_seq ?_ | refine Zq ?_ | refine ok_block ?_ | refine ok_exit ?_ | refine x_normal_then ?_ | refine x_exit_here ?_ | refine Zv ?_
    refine ok_for (ι := Nat) (fun x_ => envL [(2, vb false), (23, .d (.im (p.map eNod))), (24, vi p.length), (25, vi k), (114, .d (.im (x.eqs.map eEqn))), (115, vi x.eqs.length), (116, vi x_)]) (fun x_ => stL [none, none]) (fun x_ => x_ ≤ x.eqs.length ∧ ((x.eqs.drop x_).all eqS && (p.drop (k + 1)).all nodS) = shapeS p) (fun x_ => x.eqs.length - x_) 0 (⟨Nat.zero_le _, j2⟩) (weak_mk rfl ⟨.refl _, .refl _, .refl _, .refl _, .refl _, .refl _, .refl _, trivial⟩ trivial) (fun _ => Nat.le_refl 2) ?_
    rintro r ⟨l1, l2⟩
    rcases hz : x.eqs[r]? with _ | e
    · have hle := none_le hz
      have er : decide ((r : Int) < (x.eqs.length : Int)) = false := decide_eq_false (by omega)
      rw [drop_none hz, List.all_nil, Bool.true_and] at l2
      repeat' first
        | refine Z1 ?_ | refine Z2 ?_ | refine Z5 ?_ | refine Zf ?_ | refine Zo ?_ | refine ok_seq ?_ | refine ok_reg ?_ | refine Zq ?_ | refine ok_exit ?_ | refine x_normal_then ?_ | refine x_exit_here ?_ | refine Zv ?_
        | refine x_normal_block ?_
      exact ⟨k + 1, ⟨hlt, l2⟩, by (try simp only); omega, low_mk (Nat.le_of_ble_eq_true rfl) ⟨⟨rfl, rfl⟩, ⟨rfl, rfl⟩, ⟨rfl, rfl⟩, ⟨rfl, rfl⟩, trivial⟩ trivial⟩
    · obtain ⟨hd3, hlt3⟩ := drop_some hz
      have er : decide ((r : Int) < (x.eqs.length : Int)) = true := decide_eq_true (by omega)
      have hwe := wL_mem (w := wEqn) (List.mem_of_getElem? hz)
      rw [hd3, List.all_cons] at l2
      cases he : eqS e with
      | false =>
        have ex : (!eqS e) = true := by rw [he]; rfl
        repeat' first
          | refine Z1 ?_ | refine Z2 ?_ | refine Z5 ?_ | refine Zc (seq_ok e (by omega)) ?_ | refine Ze ?_ | refine Zo ?_ | refine ok_seq ?_ | refine Zp ?_ | refine ok_block ?_ | refine ok_skip ?_ | refine ok_ret ?_ | refine x_normal_then ?_
          | refine x_ret_then ?_ | refine x_ret_block ?_ | refine Zt ?_
        exact ret_vb (by rw [← l2, he]; rfl)
      | true =>
        have ex : (!eqS e) = false := by rw [he]; rfl
        repeat' first
          | refine Z1 ?_ | refine Z2 ?_ | refine Z5 ?_ | refine Zc (seq_ok e (by omega)) ?_ | refine Ze ?_ | refine Zf ?_ | refine Zo ?_ | refine ok_seq ?_ | refine ok_reg ?_ | refine Zp ?_ | refine Zq ?_ | refine ok_block ?_
          | refine ok_skip ?_ | refine x_normal_then ?_ | refine x_normal_block ?_
        rw [he, Bool.true_and] at l2
        exact ⟨r + 1, ⟨hlt3, l2⟩, by (try simp only); omega, low_mk (Nat.le_of_ble_eq_true rfl) ⟨⟨rfl, rfl⟩, ⟨rfl, rfl⟩, ⟨rfl, rfl⟩, ⟨rfl, rfl⟩, ⟨rfl, rfl⟩, ⟨rfl, rfl⟩, ⟨rfl, rfl⟩, trivial⟩ trivial⟩
  obtain ⟨hd2, hlt2⟩ := drop_some hy
  have eq : decide ((q : Int) < ((varsS x).length : Int)) = true := decide_eq_true (by omega)
  rw [hd2] at j2
  simp only [vsS] at j2
  have hvw : wVr v ≤ 1048576 := by
    have hm : v ∈ x.ins ++ x.outs ++ x.vars := List.mem_of_getElem? hy
    simp only [List.mem_append] at hm
    rcases hm with (hm | hm) | hm
    · have := wL_mem (w := wVr) hm; omega
    · have := wL_mem (w := wVr) hm; omega
    · have := wL_mem (w := wVr) hm; omega
  simp only [wVr, wL] at hvw
  by_cases hvb : (!nameS v.name) = true ∨ v.type < 1 ∨ 2 < v.type ∨ 8 < (v.clock.length : Int)
  · have hres : false = shapeS p := by rw [← j2]; simp only [vS, hvb, if_true, Bool.false_and]
    repeat' first
      | refine Z1 ?_ | refine Z2 ?_ | refine Z5 ?_ | refine Z7 ?_ | refine Z8 ?_ | refine Z9 ?_ | refine Za (fun hc => ?_) (fun hc => ?_) | refine Zb (fun hc => ?_) (fun hc => ?_) | refine Zc (sname_ok _) ?_ | refine Zd ?_ | refine Ze ?_
      | refine Zf ?_ | refine Zh ?_ | refine Zi ?_ | refine Zl ?_ | refine Zm ?_ | refine Zo ?_ | refine ok_seq ?_ | refine Zp ?_ | refine Zq ?_ | refine Zr (fun hc => ?_) (fun hc => ?_) | refine ok_block ?_ | refine ok_skip ?_
      | refine ok_ret ?_ | refine x_normal_then ?_ | refine x_ret_then ?_ | refine x_ret_block ?_ | refine Zt ?_
    all_goals simp only [decide_eq_true_eq, decide_eq_false_iff_not, Bool.not_eq_true, Bool.not_eq_false, Bool.not_eq_eq_eq_not, Bool.not_true, Bool.not_false] at *
    all_goals first
      | exact ret_vb hres
      | (exfalso; simp_all; done)
      | (exfalso; simp_all; omega)
  have c1 : (!nameS v.name) = false := by cases hq : (!nameS v.name) with | false => rfl | true => exact absurd (.inl hq) hvb
  have c2 : decide (v.type < 1) = false := decide_eq_false (fun h => hvb (.inr (.inl h)))
  have c3 : decide (2 < v.type) = false := decide_eq_false (fun h => hvb (.inr (.inr (.inl h))))
  have c4 : decide (8 < (v.clock.length : Int)) = false := decide_eq_false (fun h => hvb (.inr (.inr (.inr h))))
  by_cases hvc : (q : Int) < ((x.ins.length + x.outs.length : Nat) : Int) ∧ 0 < (v.clock.length : Int)
  · have hres : false = shapeS p := by rw [← j2]; simp only [vS, hvb, hvc, if_true, if_false, and_self, Bool.false_and]
    have c5 : decide ((q : Int) < (x.ins.length : Int) + (x.outs.length : Int)) = true := decide_eq_true (by omega)
    have c6 : decide (0 < (v.clock.length : Int)) = true := decide_eq_true (by omega)
    repeat' first
      | refine Z1 ?_ | refine Z2 ?_ | refine Z5 ?_ | refine Z7 ?_ | refine Zc (sname_ok _) ?_ | refine Zd ?_ | refine Ze ?_ | refine Zf ?_ | refine Zh ?_ | refine Zi ?_ | refine Zl ?_ | refine Zm ?_ | refine Zo ?_ | refine ok_seq ?_
      | refine Zp ?_ | refine Zq ?_ | refine ok_block ?_ | refine ok_skip ?_ | refine ok_ret ?_ | refine x_normal_then ?_ | refine x_ret_then ?_ | refine x_ret_block ?_ | refine Zt ?_
    exact ret_vb hres
  have hvs : vS (x.ins.length + x.outs.length) q v = v.clock.all fun c => nameS c.name := by simp only [vS, hvb, hvc, if_false]
  rw [hvs] at j2
  by_cases hq5 : (q : Int) < (x.ins.length : Int) + (x.outs.length : Int)
  · have c5 : decide ((q : Int) < (x.ins.length : Int) + (x.outs.length : Int)) = true := decide_eq_true hq5
    have c6 : decide (0 < (v.clock.length : Int)) = false := decide_eq_false (by omega)
    repeat' first
      | refine Z1 ?_ | refine Z2 ?_ | refine Z5 ?_ | refine Z7 ?_ | refine Zc (sname_ok _) ?_ | refine Zd ?_ | refine Ze ?_ | refine Zf ?_ | refine Zh ?_ | refine Zi ?_ | refine Zl ?_ | refine Zm ?_ | refine Zo ?_ | refine ok_seq ?_
      | refine Zp ?_ | refine Zq ?_ | refine ok_block ?_ | refine ok_skip ?_ | refine x_normal_then ?_
    refine ok_for (ι := Nat) (fun x_ => envL [(2, vb false), (23, .d (.im (p.map eNod))), (24, vi p.length), (25, vi k), (4, .ref 1 0), (58, .d (.im ((varsS x).map eVr))), (59, vi (varsS x).length), (60, vi q), (101, .d (.im (v.clock.map eCnd))), (102, vi v.clock.length), (103, vi x_)]) (fun x_ => stL [none, some (.var ((eNod x).map .d)), none]) (fun x_ => x_ ≤ v.clock.length ∧ ((((v.clock.drop x_).all fun c => nameS c.name) && vsS (x.ins.length + x.outs.length) (q + 1) ((varsS x).drop (q + 1)) && x.eqs.all eqS) && (p.drop (k + 1)).all nodS) = shapeS p) (fun x_ => v.clock.length - x_) 0 (⟨Nat.zero_le _, j2⟩) (weak_mk rfl ⟨.refl _, .refl _, .refl _, .refl _, .refl _, .refl _, .refl _, .refl _, .refl _, .refl _, .refl _, trivial⟩ ⟨⟨rfl, _, rfl, rfl, fun _ _ _ => .refl _⟩, trivial⟩) (fun _ => Nat.le_refl 3) ?_
    rintro r ⟨l1, l2⟩
    rcases hz : v.clock[r]? with _ | c
    · have hle := none_le hz
      have er : decide ((r : Int) < (v.clock.length : Int)) = false := decide_eq_false (by omega)
      rw [drop_none hz, List.all_nil, Bool.true_and] at l2
      repeat' first
        | refine Z1 ?_ | refine Z2 ?_ | refine Z5 ?_ | refine Zf ?_ | refine Zo ?_ | refine ok_seq ?_ | refine ok_reg ?_ | refine Zq ?_ | refine ok_exit ?_ | refine x_normal_then ?_ | refine x_exit_here ?_ | refine Zv ?_
        | refine x_normal_block ?_
      exact ⟨q + 1, ⟨hlt2, l2⟩, by (try simp only); omega, low_mk (Nat.le_of_ble_eq_true rfl) ⟨⟨rfl, rfl⟩, ⟨rfl, rfl⟩, ⟨rfl, rfl⟩, ⟨rfl, rfl⟩, ⟨rfl, rfl⟩, ⟨rfl, rfl⟩, ⟨rfl, rfl⟩, ⟨rfl, rfl⟩, trivial⟩ ⟨⟨rfl, rfl⟩, trivial⟩⟩
    · obtain ⟨hd3, hlt3⟩ := drop_some hz
      have er : decide ((r : Int) < (v.clock.length : Int)) = true := decide_eq_true (by omega)
      rw [hd3, List.all_cons] at l2
      cases he : nameS c.name with
      | false =>
        have ex : (!nameS c.name) = true := by rw [he]; rfl
        repeat' first
          | refine Z1 ?_ | refine Z2 ?_ | refine Z5 ?_ | refine Zc (sname_ok _) ?_ | refine Ze ?_ | refine Zo ?_ | refine ok_seq ?_ | refine Zp ?_ | refine ok_block ?_ | refine ok_skip ?_ | refine ok_ret ?_ | refine x_normal_then ?_
          | refine x_ret_then ?_ | refine x_ret_block ?_ | refine Zt ?_
        exact ret_vb (by rw [← l2, he]; rfl)
      | true =>
        have ex : (!nameS c.name) = false := by rw [he]; rfl
        repeat' first
          | refine Z1 ?_ | refine Z2 ?_ | refine Z5 ?_ | refine Zc (sname_ok _) ?_ | refine Ze ?_ | refine Zf ?_ | refine Zo ?_ | refine ok_seq ?_ | refine ok_reg ?_ | refine Zp ?_ | refine Zq ?_ | refine ok_block ?_ | refine ok_skip ?_
          | refine x_normal_then ?_ | refine x_normal_block ?_
        rw [he, Bool.true_and] at l2
        exact ⟨r + 1, ⟨hlt3, l2⟩, by (try simp only); omega, low_mk (Nat.le_of_ble_eq_true rfl) ⟨⟨rfl, rfl⟩, ⟨rfl, rfl⟩, ⟨rfl, rfl⟩, ⟨rfl, rfl⟩, ⟨rfl, rfl⟩, ⟨rfl, rfl⟩, ⟨rfl, rfl⟩, ⟨rfl, rfl⟩, ⟨rfl, rfl⟩, ⟨rfl, rfl⟩, ⟨rfl, rfl⟩, trivial⟩ ⟨⟨rfl, rfl⟩, trivial⟩⟩
  · have c5 : decide ((q : Int) < (x.ins.length : Int) + (x.outs.length : Int)) = false := decide_eq_false hq5
    repeat' first
      | refine Z1 ?_ | refine Z2 ?_ | refine Z5 ?_ | refine Z7 ?_ | refine Z8 ?_ | refine Zc (sname_ok _) ?_ | refine Zd ?_ | refine Ze ?_ | refine Zf ?_ | refine Zh ?_ | refine Zi ?_ | refine Zm ?_ | refine Zo ?_ | refine ok_seq ?_
      | refine Zp ?_ | refine Zq ?_ | refine ok_block ?_ | refine ok_skip ?_ | refine x_normal_then ?_
    refine ok_for (ι := Nat) (fun x_ => envL [(2, vb false), (23, .d (.im (p.map eNod))), (24, vi p.length), (25, vi k), (4, .ref 1 0), (58, .d (.im ((varsS x).map eVr))), (59, vi (varsS x).length), (60, vi q), (101, .d (.im (v.clock.map eCnd))), (102, vi v.clock.length), (103, vi x_)]) (fun x_ => stL [none, some (.var ((eNod x).map .d)), none]) (fun x_ => x_ ≤ v.clock.length ∧ ((((v.clock.drop x_).all fun c => nameS c.name) && vsS (x.ins.length + x.outs.length) (q + 1) ((varsS x).drop (q + 1)) && x.eqs.all eqS) && (p.drop (k + 1)).all nodS) = shapeS p) (fun x_ => v.clock.length - x_) 0 (⟨Nat.zero_le _, j2⟩) (weak_mk rfl ⟨.refl _, .refl _, .refl _, .refl _, .refl _, .refl _, .refl _, .refl _, .refl _, .refl _, .refl _, trivial⟩ ⟨⟨rfl, _, rfl, rfl, fun _ _ _ => .refl _⟩, trivial⟩) (fun _ => Nat.le_refl 3) ?_
    rintro r ⟨l1, l2⟩
    rcases hz : v.clock[r]? with _ | c
    · have hle := none_le hz
      have er : decide ((r : Int) < (v.clock.length : Int)) = false := decide_eq_false (by omega)
      rw [drop_none hz, List.all_nil, Bool.true_and] at l2
      repeat' first
        | refine Z1 ?_ | refine Z2 ?_ | refine Z5 ?_ | refine Zf ?_ | refine Zo ?_ | refine ok_seq ?_ | refine ok_reg ?_ | refine Zq ?_ | refine ok_exit ?_ | refine x_normal_then ?_ | refine x_exit_here ?_ | refine Zv ?_
        | refine x_normal_block ?_
      exact ⟨q + 1, ⟨hlt2, l2⟩, by (try simp only); omega, low_mk (Nat.le_of_ble_eq_true rfl) ⟨⟨rfl, rfl⟩, ⟨rfl, rfl⟩, ⟨rfl, rfl⟩, ⟨rfl, rfl⟩, ⟨rfl, rfl⟩, ⟨rfl, rfl⟩, ⟨rfl, rfl⟩, ⟨rfl, rfl⟩, trivial⟩ ⟨⟨rfl, rfl⟩, trivial⟩⟩
    · obtain ⟨hd3, hlt3⟩ := drop_some hz
      have er : decide ((r : Int) < (v.clock.length : Int)) = true := decide_eq_true (by omega)
      rw [hd3, List.all_cons] at l2
      cases he : nameS c.name with
      | false =>
        have ex : (!nameS c.name) = true := by rw [he]; rfl
        repeat' first
          | refine Z1 ?_ | refine Z2 ?_ | refine Z5 ?_ | refine Zc (sname_ok _) ?_ | refine Ze ?_ | refine Zo ?_ | refine ok_seq ?_ | refine Zp ?_ | refine ok_block ?_ | refine ok_skip ?_ | refine ok_ret ?_ | refine x_normal_then ?_
          | refine x_ret_then ?_ | refine x_ret_block ?_ | refine Zt ?_
        exact ret_vb (by rw [← l2, he]; rfl)
      | true =>
        have ex : (!nameS c.name) = false := by rw [he]; rfl
        repeat' first
          | refine Z1 ?_ | refine Z2 ?_ | refine Z5 ?_ | refine Zc (sname_ok _) ?_ | refine Ze ?_ | refine Zf ?_ | refine Zo ?_ | refine ok_seq ?_ | refine ok_reg ?_ | refine Zp ?_ | refine Zq ?_ | refine ok_block ?_ | refine ok_skip ?_
          | refine x_normal_then ?_ | refine x_normal_block ?_
        rw [he, Bool.true_and] at l2
        exact ⟨r + 1, ⟨hlt3, l2⟩, by (try simp only); omega, low_mk (Nat.le_of_ble_eq_true rfl) ⟨⟨rfl, rfl⟩, ⟨rfl, rfl⟩, ⟨rfl, rfl⟩, ⟨rfl, rfl⟩, ⟨rfl, rfl⟩, ⟨rfl, rfl⟩, ⟨rfl, rfl⟩, ⟨rfl, rfl⟩, ⟨rfl, rfl⟩, ⟨rfl, rfl⟩, ⟨rfl, rfl⟩, trivial⟩ ⟨⟨rfl, rfl⟩, trivial⟩⟩
end Go.Pm
/- Plain law: shapes. -/
set_option linter.unusedVariables false
set_option linter.unusedSimpArgs false
namespace Go.Pm
theorem code_eq (l : List Itm) : exprI l = oneS l := by
  unfold exprI oneS codeS
  by_cases h1 : (l.length : Int) < 1 ∨ 3000 < (l.length : Int)
  · have h2 : (l.length : Int) < 1 ∨ 3000 < (l.length : Int) ∨ beginS l l.length 1 ≠ 0 := by omega
    simp [h1, h2]
  · by_cases hb : beginS l l.length 1 = 0
    · have h2 : ¬ ((l.length : Int) < 1 ∨ 3000 < (l.length : Int) ∨ beginS l l.length 1 ≠ 0) := by omega
      rw [if_neg h1, if_neg h2, Bool.eq_iff_iff]
      simp only [Bool.and_eq_true, List.all_eq_true]
      have hops : ∀ x ∈ l, 0 ≤ sarityI x.op := by
        intro x hx
        obtain ⟨j, hj⟩ := List.getElem?_of_mem hx
        exact begin_ops l l.length 1 hb j x (drop_some hj).2 hj
      constructor
      · rintro ⟨ha, hp⟩
        refine ⟨fun x hx => ?_, fun x hx => ?_⟩
        · have := ha x hx; rw [item_eq] at this; simp only [Bool.and_eq_true] at this; exact this.1.1
        · have := ha x hx; rw [item_eq] at this; simp only [Bool.and_eq_true] at this; exact this.1.2
      · rintro ⟨ha, hq⟩
        have hr : ∀ x ∈ l, 1 ≤ x.op ∧ x.op ≤ 24 := by
          intro x hx
          have h3 := hops x hx
          have h4 := hq x hx
          simp only [Bool.not_eq_true', decide_eq_false_iff_not] at h4
          unfold sarityI at h3
          grind
        refine ⟨fun x hx => ?_, ?_⟩
        · rw [item_eq]; simp only [Bool.and_eq_true, decide_eq_true_eq]; exact ⟨⟨ha x hx, hq x hx⟩, hr x hx⟩
        · rw [postG_one]
          have := (begin_post l (fun x hx => ⟨(hr x hx).1, by have := (hr x hx).2; omega⟩) l.length 1 (Nat.le_refl _) (by omega)).1 hb
          rwa [List.take_length] at this
    · have h2 : (l.length : Int) < 1 ∨ 3000 < (l.length : Int) ∨ beginS l l.length 1 ≠ 0 := .inr (.inr hb)
      rw [if_neg h1, if_pos h2, Bool.false_and, Bool.eq_false_iff]
      intro hc
      simp only [Bool.and_eq_true, List.all_eq_true] at hc
      obtain ⟨ha, hp⟩ := hc
      have hr : ∀ x ∈ l, 1 ≤ x.op ∧ x.op ≤ 24 := by
        intro x hx
        have := ha x hx
        rw [item_eq] at this
        simp only [Bool.and_eq_true, decide_eq_true_eq] at this
        exact this.2
      rw [postG_one] at hp
      have := (begin_post l (fun x hx => ⟨(hr x hx).1, by have := (hr x hx).2; omega⟩) l.length 1 (Nat.le_refl _) (by omega)).2 (by rw [List.take_length]; exact hp)
      exact hb this
theorem nameIS : nameI = nameS := funext name_eq
theorem exprIS : exprI = oneS := funext code_eq
theorem eqn_eq (e : Eqn) : eqI e = eqS e := by
  unfold eqI eqS
  rw [nameIS, exprIS]
  by_cases h1 : (e.lhs.length : Int) < 1 ∨ 500 < (e.lhs.length : Int) ∨ 500 < (e.args.length : Int)
  · simp only [h1, if_true, ite_self]
  · simp only [h1, if_false]
    cases h2 : e.lhs.all nameS with
    | false => simp
    | true =>
      simp only [Bool.not_true, Bool.false_eq_true, if_false]
      by_cases h3 : e.call = ⟨#[]⟩
      · simp only [h3, if_true, List.all_cons, List.all_nil, Bool.and_true]
        by_cases h4 : (e.lhs.length : Int) ≠ 1
        · simp [h4]
        · by_cases h5 : (e.args.length : Int) = 0
          · have h6 : ¬ 0 < (e.args.length : Int) := by omega
            cases h7 : oneS e.code <;> simp [h4, h5, h6, h7]
          · have h6 : 0 < (e.args.length : Int) := by omega
            rw [if_pos (.inr (.inl h6)), if_pos (.inr h5)]
      · simp only [h3, if_false]
        cases h4 : nameS e.call with
        | false => simp
        | true =>
          by_cases h5 : (e.code.length : Int) = 0
          · have h6 : ¬ 0 < (e.code.length : Int) := by omega
            simp [h5, h6]
          · have h6 : 0 < (e.code.length : Int) := by omega
            rw [if_pos (.inr h6)]
            simp only [ne_eq, h5, not_false_eq_true, decide_true, Bool.or_true, if_true]
theorem v_low {M k : Nat} {v : Vr} {m : Nat} (hk : k < M) (hm : m < 2) : vS M k v = vI m v := by
  unfold vS vI
  rw [nameIS]
  grind
theorem v_high {M k : Nat} {v : Vr} (hk : M ≤ k) : vS M k v = vI 2 v := by
  unfold vS vI
  rw [nameIS]
  grind
theorem vs_append (M : Nat) : ∀ (l l' : List Vr) (k : Nat), vsS M k (l ++ l') = (vsS M k l && vsS M (k + l.length) l')
  | [], l', k => by simp [vsS]
  | v :: l, l', k => by
    simp only [List.cons_append, vsS, vs_append M l l' (k + 1), List.length_cons, Bool.and_assoc]
    rw [show k + 1 + l.length = k + (l.length + 1) by omega]
theorem vs_low {M m : Nat} (hm : m < 2) : ∀ (l : List Vr) (k : Nat), k + l.length ≤ M → vsS M k l = l.all (vI m)
  | [], k, _ => rfl
  | v :: l, k, h => by
    simp only [List.length_cons] at h
    have h1 := v_low (v := v) (show k < M by omega) hm
    have h2 := vs_low (M := M) hm l (k + 1) (by omega)
    simp only [vsS, List.all_cons, h1, h2]
theorem vs_high {M : Nat} : ∀ (l : List Vr) (k : Nat), M ≤ k → vsS M k l = l.all (vI 2)
  | [], k, _ => rfl
  | v :: l, k, h => by
    have h1 := v_high (v := v) h
    have h2 := vs_high l (k + 1) (show M ≤ k + 1 by omega)
    simp only [vsS, List.all_cons, h1, h2]
theorem grp_eq (x : Nod) : grpI 0 [x.ins, x.outs, x.vars] = vsS (x.ins.length + x.outs.length) 0 (varsS x) := by
  unfold varsS
  rw [vs_append, vs_append, vs_low (m := 0) (by omega) x.ins 0 (by omega), vs_low (m := 1) (by omega) x.outs (0 + x.ins.length) (by omega), vs_high x.vars _ (by simp)]
  simp only [grpI, Bool.and_true, Bool.and_assoc]
theorem nod_eq (x : Nod) : nodI x = nodS x := by
  unfold nodI nodS
  rw [nameIS, grp_eq, show eqI = eqS from funext eqn_eq]
  have hl : ((varsS x).length : Int) = (x.ins.length : Int) + (x.outs.length : Int) + (x.vars.length : Int) := by simp only [varsS, List.length_append]; omega
  rw [hl]
  by_cases h1 : (!nameS x.name) = true
  · simp [h1]
  · by_cases h2 : (x.outs.length : Int) < 1 ∨ (x.eqs.length : Int) < 1 ∨ 500 < (x.ins.length : Int) + (x.outs.length : Int) + (x.vars.length : Int) ∨ 500 < (x.eqs.length : Int)
    · rw [if_pos (.inr h2), if_pos (.inr (by omega))]
    · rw [if_neg (by intro h; exact h.elim h1 h2), if_neg (by intro h; exact h.elim h1 (fun h => h2 (by omega)))]
theorem shape_eq (p : List Nod) : shapeI p = shapeS p := by
  unfold shapeI shapeS
  rw [show nodI = nodS from funext nod_eq]
end Go.Pm
