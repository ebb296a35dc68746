/- Machines of the specification: one statement. -/
import Derived.Test.YtdjanhhljinokaaDoorT11
import Derived.Test.YtdjanhhljinokaaDoorT12
import Derived.Test.YtdjanhhljinokaaDoorT9
import Derived.Test.YtdjanhhljinokaaDoorT10
set_option linter.unusedVariables false
set_option linter.unusedSimpArgs false
namespace Go.Pm
attribute [local irreducible] AR Ok inBlock andThen endQ aoper
set_option maxHeartbeats 2000000
open Go.Proofs
def c0 (s : Sm) : Bool := decide (s.kind = 1) || decide (s.kind = 4)
def c1 (s : Sm) : Bool := !(c0 s) && decide (s.name ≠ ⟨#[]⟩)
def c2 (s : Sm) : Bool := decide (s.kind ≠ 2) && decide (s.kind ≠ 3) && decide (s.pos ≠ 0)
def c3 (s : Sm) : Bool := decide (s.kind ≠ 3) && (decide ((s.outs.length : Int) ≠ 0) || decide ((s.args.length : Int) ≠ 0))
def c4 (s : Sm) : Bool := decide (s.kind ≠ 1) && decide (s.kind ≠ 2) && decide ((s.code.length : Int) ≠ 0)
def outsS (c : Cls) (outs : List ByteArray) : Nat → List ByteArray → Bool
  | _, [] => true
  | i, x :: l => if setS c x = false ∨ placeS x 0 outs < (i : Int) then false else outsS c outs (i + 1) l
def stmS (cs : List Cls) (c : Cls) (s : Sm) : Bool :=
  if c1 s = true then false else if c2 s = true then false else if c3 s = true then false else if c4 s = true then false
  else if s.kind = 1 then setS c s.name && mcodeS c s.code
  else if s.kind = 2 then decide (0 ≤ s.pos) && decide (s.pos < (c.mems.length : Int)) && mcodeS c s.code
  else if s.kind = 4 then inS (nmsC c) s.name
  else if s.kind = 5 ∨ s.kind = 6 then true
  else if s.kind = 3 then
    (if s.pos < 0 ∨ (c.insts.length : Int) ≤ s.pos then false else
      match (c.insts[s.pos.toNat]?).bind (fun g => cs[g.toNat]?) with
      | none => false
      | some d => if s.outs.length = d.outs.length ∧ s.args.length = d.ins.length then outsS c s.outs 0 s.outs && s.args.all (mcodeS c) else false)
  else false
theorem bq {a b : Bool} (h : b = a) : Frz none (vb a) (vb b) := by rw [h]; exact .refl _
theorem sstm_ok (cs : List Cls) (k : Nat) (c : Cls) (s : Sm) (hc : cs.length ≤ 1048576) (hw : wCls c ≤ 1048576) (hs : wSm s ≤ 1048576) (hk : k < cs.length) (hin : ∀ g ∈ c.insts, 0 ≤ g ∧ g < (k : Int)) : PFun X 59 [.agg [.d (.im (cs.map eCls))], .agg ((eCls c).map .d), .agg ((eSm s).map .d)] (vb (stmS cs c s)) := by
  have hnl := nms_le hw
  have hcl := cls_le hw
  have hsl : s.code.length ≤ 1048576 ∧ s.outs.length ≤ 1048576 ∧ s.args.length ≤ 1048576 := by simp only [wSm, wL] at hs; omega
  refine pfun_of Tryd.func59 rfl (by decide) Tryd.ntmps59 Tryd.results59 (by simp) rfl rfl ?_
  refine Zo ?_
  repeat' first
    | refine Z1 ?_ | refine Z2 ?_
  refine ok_cut (envL [(7, vb (c0 s)), (3, .ref 0 0), (4, .ref 1 0), (5, .ref 2 0)]) (stL [some (.var [.d (.im (cs.map eCls))]), some (.var ((eCls c).map .d)), some (.var ((eSm s).map .d))]) ?_ ?_
  ·
    repeat' first
      | refine Z1 ?_ | refine Z3 ?_ | refine Z5 ?_ | refine Z7 ?_ | refine Z9 ?_ | refine Zb (fun hc => ?_) (fun hc => ?_) | refine Zh ?_ | refine Zi ?_ | refine Zl ?_ | refine Zm ?_ | refine ok_reg ?_
    all_goals exact ⟨rfl, weak_mk rfl ⟨bq (by simp only [c0, *]; try rfl), .refl _, .refl _, .refl _, trivial⟩ ⟨⟨rfl, _, rfl, rfl, fun _ _ _ => .refl _⟩, ⟨rfl, _, rfl, rfl, fun _ _ _ => .refl _⟩, ⟨rfl, _, rfl, rfl, fun _ _ _ => .refl _⟩, trivial⟩⟩
  refine ok_seq ?_
  refine ok_cut (envL [(27, vb (c1 s)), (3, .ref 0 0), (4, .ref 1 0), (5, .ref 2 0)]) (stL [some (.var [.d (.im (cs.map eCls))]), some (.var ((eCls c).map .d)), some (.var ((eSm s).map .d))]) ?_ ?_
  ·
    repeat' first
      | refine Z1 ?_ | refine Z3 ?_ | refine Z5 ?_ | refine Z7 ?_ | refine Z8 ?_ | refine Za (fun hc => ?_) (fun hc => ?_) | refine Zh ?_ | refine Zi ?_ | refine Zl ?_ | refine Zm ?_ | refine ok_reg ?_
    all_goals exact ⟨rfl, weak_mk rfl ⟨bq (by simp only [c1, *]; try rfl), .refl _, .refl _, .refl _, trivial⟩ ⟨⟨rfl, _, rfl, rfl, fun _ _ _ => .refl _⟩, ⟨rfl, _, rfl, rfl, fun _ _ _ => .refl _⟩, ⟨rfl, _, rfl, rfl, fun _ _ _ => .refl _⟩, trivial⟩⟩
  have hm : stmS cs c s = stmS cs c s := rfl
  conv at hm => rhs; unfold stmS
  cases h1 : c1 s with
  | true =>
    rw [if_pos h1] at hm
    repeat' first
      | refine Z1 ?_ | refine Z2 ?_ | refine Zo ?_ | refine Zp ?_ | refine ok_ret ?_ | refine x_ret_then ?_ | refine Zt ?_
    exact ret_vb hm.symm
  | false =>
  rw [if_neg (by rw [h1]; simp)] at hm
  refine Zq ?_
  refine ok_skip ?_
  refine x_normal_then ?_
  refine ok_seq ?_
  refine ok_cut (envL [(40, vb (c2 s)), (3, .ref 0 0), (4, .ref 1 0), (5, .ref 2 0)]) (stL [some (.var [.d (.im (cs.map eCls))]), some (.var ((eCls c).map .d)), some (.var ((eSm s).map .d))]) ?_ ?_
  ·
    repeat' first
      | refine Z1 ?_ | refine Z3 ?_ | refine Z5 ?_ | refine Z7 ?_ | refine Z8 ?_ | refine Za (fun hc => ?_) (fun hc => ?_) | refine Zh ?_ | refine Zi ?_ | refine Zl ?_ | refine Zm ?_ | refine ok_reg ?_
    all_goals exact ⟨rfl, weak_mk rfl ⟨bq (by simp only [c2, *]; try rfl), .refl _, .refl _, .refl _, trivial⟩ ⟨⟨rfl, _, rfl, rfl, fun _ _ _ => .refl _⟩, ⟨rfl, _, rfl, rfl, fun _ _ _ => .refl _⟩, ⟨rfl, _, rfl, rfl, fun _ _ _ => .refl _⟩, trivial⟩⟩
  cases h2 : c2 s with
  | true =>
    rw [if_pos h2] at hm
    repeat' first
      | refine Z1 ?_ | refine Z2 ?_ | refine Zo ?_ | refine Zp ?_ | refine ok_ret ?_ | refine x_ret_then ?_ | refine Zt ?_
    exact ret_vb hm.symm
  | false =>
  rw [if_neg (by rw [h2]; simp)] at hm
  refine Zq ?_
  refine ok_skip ?_
  refine x_normal_then ?_
  refine ok_seq ?_
  refine ok_cut (envL [(55, vb (c3 s)), (3, .ref 0 0), (4, .ref 1 0), (5, .ref 2 0)]) (stL [some (.var [.d (.im (cs.map eCls))]), some (.var ((eCls c).map .d)), some (.var ((eSm s).map .d))]) ?_ ?_
  ·
    repeat' first
      | refine Z1 ?_ | refine Z3 ?_ | refine Z5 ?_ | refine Z6 ?_ | refine Z7 ?_ | refine Z8 ?_ | refine Z9 ?_ | refine Za (fun hc => ?_) (fun hc => ?_) | refine Zb (fun hc => ?_) (fun hc => ?_) | refine Zd ?_ | refine Zh ?_ | refine Zi ?_
      | refine Zl ?_ | refine Zm ?_ | refine ok_reg ?_
    all_goals exact ⟨rfl, weak_mk rfl ⟨bq (by simp only [c3, *]; try rfl), .refl _, .refl _, .refl _, trivial⟩ ⟨⟨rfl, _, rfl, rfl, fun _ _ _ => .refl _⟩, ⟨rfl, _, rfl, rfl, fun _ _ _ => .refl _⟩, ⟨rfl, _, rfl, rfl, fun _ _ _ => .refl _⟩, trivial⟩⟩
  cases h3 : c3 s with
  | true =>
    rw [if_pos h3] at hm
    repeat' first
      | refine Z1 ?_ | refine Z2 ?_ | refine Zo ?_ | refine Zp ?_ | refine ok_ret ?_ | refine x_ret_then ?_ | refine Zt ?_
    exact ret_vb hm.symm
  | false =>
  rw [if_neg (by rw [h3]; simp)] at hm
  refine Zq ?_
  refine ok_skip ?_
  refine x_normal_then ?_
  refine ok_seq ?_
  refine ok_cut (envL [(69, vb (c4 s)), (3, .ref 0 0), (4, .ref 1 0), (5, .ref 2 0)]) (stL [some (.var [.d (.im (cs.map eCls))]), some (.var ((eCls c).map .d)), some (.var ((eSm s).map .d))]) ?_ ?_
  ·
    repeat' first
      | refine Z1 ?_ | refine Z3 ?_ | refine Z5 ?_ | refine Z7 ?_ | refine Z8 ?_ | refine Za (fun hc => ?_) (fun hc => ?_) | refine Zd ?_ | refine Zh ?_ | refine Zi ?_ | refine Zl ?_ | refine Zm ?_ | refine ok_reg ?_
    all_goals exact ⟨rfl, weak_mk rfl ⟨bq (by simp only [c4, *]; try rfl), .refl _, .refl _, .refl _, trivial⟩ ⟨⟨rfl, _, rfl, rfl, fun _ _ _ => .refl _⟩, ⟨rfl, _, rfl, rfl, fun _ _ _ => .refl _⟩, ⟨rfl, _, rfl, rfl, fun _ _ _ => .refl _⟩, trivial⟩⟩
  cases h4 : c4 s with
  | true =>
    rw [if_pos h4] at hm
    repeat' first
      | refine Z1 ?_ | refine Z2 ?_ | refine Zo ?_ | refine Zp ?_ | refine ok_ret ?_ | refine x_ret_then ?_ | refine Zt ?_
    exact ret_vb hm.symm
  | false =>
  rw [if_neg (by rw [h4]; simp)] at hm
  refine Zq ?_
  refine ok_skip ?_
  refine x_normal_then ?_
  by_cases k1 : s.kind = 1
  · have q1 : decide (s.kind = 1) = true := decide_eq_true k1
    rw [if_pos k1] at hm
    cases hs1 : setS c s.name with
    | false =>
      rw [hs1, Bool.false_and] at hm
      repeat' first
        | refine Z1 ?_ | refine Z2 ?_ | refine Z5 ?_ | refine Z8 ?_ | refine Zc (sset_ok c s.name hw) ?_ | refine Zm ?_ | refine Zo ?_ | refine ok_seq ?_ | refine Zp ?_ | refine ok_block ?_ | refine ok_ret ?_ | refine x_ret_then ?_
        | refine x_ret_block ?_ | refine Zt ?_
      exact ret_vb hm.symm
    | true =>
      rw [hs1, Bool.true_and] at hm
      repeat' first
        | refine Z1 ?_ | refine Z2 ?_ | refine Z5 ?_ | refine Z7 ?_ | refine Zc (sset_ok c s.name hw) ?_ | refine Zc (mcode_ok c s.code hw hsl.1) ?_ | refine Zi ?_ | refine Zl ?_ | refine Zo ?_ | refine ok_seq ?_ | refine Zp ?_
        | refine ok_block ?_ | refine ok_ret ?_ | refine x_ret_then ?_ | refine x_ret_block ?_ | refine Zt ?_
      exact ret_vb hm.symm
  have q1 : decide (s.kind = 1) = false := decide_eq_false k1
  rw [if_neg k1] at hm
  by_cases k2 : s.kind = 2
  · have q2 : decide (s.kind = 2) = true := decide_eq_true k2
    rw [if_pos k2] at hm
    cases v1 : decide (0 ≤ s.pos) with
    | false =>
      rw [v1] at hm
      repeat' first
        | refine Z1 ?_ | refine Z2 ?_ | refine Z5 ?_ | refine Z8 ?_ | refine Zm ?_ | refine Zo ?_ | refine ok_seq ?_ | refine Zp ?_ | refine Zq ?_ | refine ok_block ?_ | refine ok_ret ?_ | refine x_ret_then ?_ | refine x_ret_block ?_
        | refine Zt ?_
      exact ret_vb hm.symm
    | true =>
      cases v2 : decide (s.pos < (c.mems.length : Int)) with
      | false =>
        rw [v1, v2] at hm
        repeat' first
          | refine Z1 ?_ | refine Z2 ?_ | refine Z5 ?_ | refine Z7 ?_ | refine Z8 ?_ | refine Zd ?_ | refine Zh ?_ | refine Zi ?_ | refine Zl ?_ | refine Zm ?_ | refine Zo ?_ | refine ok_seq ?_ | refine Zp ?_ | refine Zq ?_
          | refine ok_block ?_ | refine ok_ret ?_ | refine x_ret_then ?_ | refine x_ret_block ?_ | refine Zt ?_
        exact ret_vb hm.symm
      | true =>
        rw [v1, v2] at hm
        repeat' first
          | refine Z1 ?_ | refine Z2 ?_ | refine Z5 ?_ | refine Z7 ?_ | refine Zc (mcode_ok c s.code hw hsl.1) ?_ | refine Zd ?_ | refine Zh ?_ | refine Zi ?_ | refine Zl ?_ | refine Zo ?_ | refine ok_seq ?_ | refine Zp ?_ | refine Zq ?_
          | refine ok_block ?_ | refine ok_ret ?_ | refine x_ret_then ?_ | refine x_ret_block ?_ | refine Zt ?_
        exact ret_vb hm.symm
  have q2 : decide (s.kind = 2) = false := decide_eq_false k2
  rw [if_neg k2] at hm
  by_cases k4 : s.kind = 4
  · have q4 : decide (s.kind = 4) = true := decide_eq_true k4
    rw [if_pos k4] at hm
    repeat' first
      | refine Z1 ?_ | refine Z2 ?_ | refine Zw ?_ | refine Zx ?_ | refine Zz (Zc (svarsC_ok c hw) ⟨rfl, rfl⟩) ?_ | refine Zz (Zc (sin_ok (nmsC c) s.name hnl) ⟨rfl, rfl⟩) ?_ | refine Zo ?_ | refine ok_seq ?_
      | refine ok_draw X_mixed (by decide +kernel) ?_ | refine Zp ?_ | refine Zq ?_ | refine ok_block ?_ | refine ok_ret ?_ | refine x_ret_then ?_ | refine x_ret_block ?_ | refine Zt ?_
    exact ret_vb hm.symm
  have q4 : decide (s.kind = 4) = false := decide_eq_false k4
  rw [if_neg k4] at hm
  by_cases k5 : s.kind = 5
  · have q5 : decide (s.kind = 5) = true := decide_eq_true k5
    rw [if_pos (.inl k5)] at hm
    repeat' first
      | refine Z1 ?_ | refine Z2 ?_ | refine Zo ?_ | refine ok_seq ?_ | refine Zp ?_ | refine Zq ?_ | refine ok_block ?_ | refine ok_skip ?_ | refine ok_ret ?_ | refine x_normal_then ?_ | refine x_ret_then ?_ | refine x_ret_block ?_
      | refine Zt ?_
    exact ret_vb hm.symm
  have q5 : decide (s.kind = 5) = false := decide_eq_false k5
  by_cases k6 : s.kind = 6
  · have q6 : decide (s.kind = 6) = true := decide_eq_true k6
    rw [if_pos (.inr k6)] at hm
    repeat' first
      | refine Z1 ?_ | refine Z2 ?_ | refine Zo ?_ | refine ok_seq ?_ | refine ok_reg ?_ | refine Zp ?_ | refine Zq ?_ | refine ok_block ?_ | refine ok_ret ?_ | refine x_ret_then ?_ | refine x_ret_block ?_ | refine Zt ?_
    exact ret_vb hm.symm
  have q6 : decide (s.kind = 6) = false := decide_eq_false k6
  rw [if_neg (fun h => h.elim k5 k6)] at hm
  by_cases k3 : s.kind = 3
  · have q3 : decide (s.kind = 3) = true := decide_eq_true k3
    rw [if_pos k3] at hm
    by_cases p1 : s.pos < 0
    · have n1 : decide (s.pos < 0) = true := decide_eq_true p1
      rw [if_pos (.inl p1)] at hm
      repeat' first
        | refine Z1 ?_ | refine Z2 ?_ | refine Z5 ?_ | refine Z9 ?_ | refine Zl ?_ | refine Zo ?_ | refine ok_seq ?_ | refine ok_reg ?_ | refine Zp ?_ | refine Zq ?_ | refine ok_block ?_ | refine ok_ret ?_ | refine x_ret_then ?_
        | refine x_ret_block ?_ | refine Zt ?_
      exact ret_vb hm.symm
    have n1 : decide (s.pos < 0) = false := decide_eq_false p1
    by_cases p2 : (c.insts.length : Int) ≤ s.pos
    · have n2 : decide ((c.insts.length : Int) ≤ s.pos) = true := decide_eq_true p2
      rw [if_pos (.inr p2)] at hm
      repeat' first
        | refine Z1 ?_ | refine Z2 ?_ | refine Z5 ?_ | refine Z7 ?_ | refine Zd ?_ | refine Zh ?_ | refine Zi ?_ | refine Zm ?_ | refine Zo ?_ | refine ok_seq ?_ | refine ok_reg ?_ | refine Zp ?_ | refine Zq ?_ | refine ok_block ?_
        | refine ok_ret ?_ | refine x_ret_then ?_ | refine x_ret_block ?_ | refine Zt ?_
      exact ret_vb hm.symm
    have n2 : decide ((c.insts.length : Int) ≤ s.pos) = false := decide_eq_false p2
    rw [if_neg (fun h => h.elim p1 p2)] at hm
    obtain ⟨p, hp⟩ : ∃ p : Nat, s.pos = (p : Int) := ⟨s.pos.toNat, by omega⟩
    obtain ⟨g, hg⟩ : ∃ g, c.insts[p]? = some g := ⟨c.insts[p]'(by omega), List.getElem?_eq_getElem (by omega)⟩
    obtain ⟨g0, g1⟩ := hin g (List.mem_of_getElem? hg)
    obtain ⟨gn, hgn⟩ : ∃ gn : Nat, g = (gn : Int) := ⟨g.toNat, by omega⟩
    obtain ⟨d, hd2⟩ : ∃ d, cs[gn]? = some d := ⟨cs[gn]'(by omega), List.getElem?_eq_getElem (by omega)⟩
    rw [hp, Int.toNat_natCast, hg, Option.bind_some, hgn, Int.toNat_natCast, hd2] at hm
    dsimp only at hm
    repeat' first
      | refine Z1 ?_ | refine Z2 ?_ | refine Z5 ?_ | refine Z7 ?_ | refine Zd ?_ | refine Zh ?_ | refine Zi ?_ | refine Zm ?_ | refine Zo ?_ | refine ok_seq ?_ | refine ok_reg ?_ | refine Zp ?_ | refine Zq ?_ | refine ok_block ?_
      | refine ok_skip ?_ | refine x_normal_then ?_
    refine ok_drawE (fun j => j = 0 ∨ j = 1 ∨ j = 2) [10, 11] X_mixed (by decide +kernel) ?_
    repeat' first
      | refine Wl (i := 0) rfl (.inl rfl) ?_ | refine Wl (i := 1) rfl (.inr (.inl rfl)) ?_ | refine Wl (i := 2) rfl (.inr (.inr rfl)) ?_ | refine Wa ?_
    refine Wq (fun σ' _ => Ze (k := p) ⟨rfl, rfl⟩ rfl (congrArg vi hp) hg) ?_
    refine Wa ?_
    refine Wq (fun σ' _ => Ze (k := gn) ⟨rfl, rfl⟩ rfl (congrArg vi hgn) hd2) ?_
    refine Wa ?_
    refine We (Yu (i := 3) ⟨rfl, rfl⟩) (.inr (fun j hj => by rw [St.obj_alloc, if_neg (by show ¬ j = 3; omega)])) ?_
    refine We (Yt (i := 3) (m := (eCls d).map .d) rfl ⟨rfl, rfl⟩) (.inl rfl) ?_
    refine Wx ?_
    by_cases ho : s.outs.length = d.outs.length
    · have n3 : decide ((s.outs.length : Int) ≠ (d.outs.length : Int)) = false := decide_eq_false (fun h => h (by omega))
      by_cases hi : s.args.length = d.ins.length
      · have n4 : decide ((s.args.length : Int) ≠ (d.ins.length : Int)) = false := decide_eq_false (fun h => h (by omega))
        rw [if_pos ⟨ho, hi⟩] at hm
        repeat' first
          | refine Z1 ?_ | refine Z2 ?_ | refine Z5 ?_ | refine Z7 ?_ | refine Zd ?_ | refine Zh ?_ | refine Zi ?_ | refine Zm ?_ | refine Zo ?_ | refine ok_seq ?_ | refine Zq ?_ | refine ok_block ?_ | refine ok_skip ?_
          | refine x_normal_then ?_
        refine ok_for (ι := Nat) (fun x => envL [(3, .ref 0 0), (4, .ref 1 0), (5, .ref 2 0), (153, .d (.im (s.outs.map eStr))), (154, vi s.outs.length), (155, vi x)]) (fun x => stL [some (.var [.d (.im (cs.map eCls))]), some (.var ((eCls c).map .d)), some (.var ((eSm s).map .d)), none]) (fun x => x ≤ s.outs.length ∧ outsS c s.outs x (s.outs.drop x) = outsS c s.outs 0 s.outs) (fun x => s.outs.length - x) 0 (⟨Nat.zero_le _, rfl⟩) (weak_mk rfl ⟨.refl _, .refl _, .refl _, .refl _, .refl _, .refl _, trivial⟩ ⟨⟨rfl, _, rfl, rfl, fun _ _ _ => .refl _⟩, ⟨rfl, _, rfl, rfl, fun _ _ _ => .refl _⟩, ⟨rfl, _, rfl, rfl, fun _ _ _ => .refl _⟩, trivial⟩) (fun _ => Nat.le_refl 4) ?_
        rintro y ⟨l1, l2⟩
        by_cases hyl : y < s.outs.length
        · obtain ⟨x, hy⟩ : ∃ x, s.outs[y]? = some x := ⟨s.outs[y], List.getElem?_eq_getElem hyl⟩
          obtain ⟨hd3, hlt3⟩ := drop_some hy
          have ey : decide ((y : Int) < (s.outs.length : Int)) = true := decide_eq_true (by omega)
          rw [hd3] at l2
          simp only [outsS] at l2
          cases hv : setS c x with
          | false =>
            have n5 : (!setS c x) = true := by rw [hv]; rfl
            rw [if_pos (.inl hv)] at l2
            rw [← l2, Bool.false_and] at hm
            repeat' first
              | refine Z1 ?_ | refine Z2 ?_ | refine Z5 ?_ | refine Z9 ?_ | refine Zc (sset_ok c x hw) ?_ | refine Ze ?_ | refine Zl ?_ | refine Zo ?_ | refine ok_seq ?_ | refine Zp ?_ | refine ok_block ?_ | refine ok_skip ?_
              | refine ok_ret ?_ | refine x_normal_then ?_ | refine x_ret_then ?_ | refine x_ret_block ?_ | refine Zt ?_
            exact ret_vb hm.symm
          | true =>
            have n5 : (!setS c x) = false := by rw [hv]; rfl
            by_cases he : placeS x 0 s.outs < (y : Int)
            · have n6 : decide (placeS x 0 s.outs < (y : Int)) = true := decide_eq_true he
              rw [if_pos (.inr he)] at l2
              rw [← l2, Bool.false_and] at hm
              repeat' first
                | refine Z1 ?_ | refine Z2 ?_ | refine Z5 ?_ | refine Z7 ?_ | refine Zc (sset_ok c x hw) ?_ | refine Zc (splace_ok s.outs x hsl.2.1) ?_ | refine Ze ?_ | refine Zh ?_ | refine Zi ?_ | refine Zm ?_ | refine Zo ?_
                | refine ok_seq ?_ | refine Zp ?_ | refine ok_block ?_ | refine ok_skip ?_ | refine ok_ret ?_ | refine x_normal_then ?_ | refine x_ret_then ?_ | refine x_ret_block ?_ | refine Zt ?_
              exact ret_vb hm.symm
            · have n6 : decide (placeS x 0 s.outs < (y : Int)) = false := decide_eq_false he
              rw [if_neg (fun h => h.elim (by rw [hv]; intro h; cases h) he)] at l2
              repeat' first
                | refine Z1 ?_ | refine Z2 ?_ | refine Z5 ?_ | refine Z7 ?_ | refine Zc (sset_ok c x hw) ?_ | refine Zc (splace_ok s.outs x hsl.2.1) ?_ | refine Ze ?_ | refine Zf ?_ | refine Zh ?_ | refine Zi ?_ | refine Zm ?_ | refine Zo ?_
                | refine ok_seq ?_ | refine ok_reg ?_ | refine Zp ?_ | refine Zq ?_ | refine ok_block ?_ | refine ok_skip ?_ | refine x_normal_then ?_ | refine x_normal_block ?_
              exact ⟨y + 1, ⟨hlt3, l2⟩, by (try simp only); omega, low_mk (Nat.le_of_ble_eq_true rfl) ⟨⟨rfl, rfl⟩, ⟨rfl, rfl⟩, ⟨rfl, rfl⟩, ⟨rfl, rfl⟩, ⟨rfl, rfl⟩, ⟨rfl, rfl⟩, trivial⟩ ⟨⟨rfl, rfl⟩, ⟨rfl, rfl⟩, ⟨rfl, rfl⟩, trivial⟩⟩
        have ey : decide ((y : Int) < (s.outs.length : Int)) = false := decide_eq_false (by omega)
        rw [List.drop_eq_nil_of_le (by omega)] at l2
        have l2 : true = outsS c s.outs 0 s.outs := l2
        rw [← l2, Bool.true_and] at hm
        repeat' first
          | refine Z1 ?_ | refine Z2 ?_ | refine Z5 ?_ | refine Zd ?_ | refine Zo ?_ | refine ok_seq ?_ | refine Zq ?_ | refine ok_block ?_ | refine ok_exit ?_ | refine x_normal_then ?_ | refine x_exit_here ?_ | refine Zv ?_
        refine ok_for (ι := Nat) (fun x => envL [(3, .ref 0 0), (4, .ref 1 0), (5, .ref 2 0), (174, .d (.im (s.args.map eItms))), (175, vi s.args.length), (176, vi x)]) (fun x => stL [some (.var [.d (.im (cs.map eCls))]), some (.var ((eCls c).map .d)), some (.var ((eSm s).map .d)), none]) (fun x => x ≤ s.args.length ∧ (s.args.drop x).all (mcodeS c) = s.args.all (mcodeS c)) (fun x => s.args.length - x) 0 (⟨Nat.zero_le _, rfl⟩) (weak_mk rfl ⟨.refl _, .refl _, .refl _, .refl _, .refl _, .refl _, trivial⟩ ⟨⟨rfl, _, rfl, rfl, fun _ _ _ => .refl _⟩, ⟨rfl, _, rfl, rfl, fun _ _ _ => .refl _⟩, ⟨rfl, _, rfl, rfl, fun _ _ _ => .refl _⟩, trivial⟩) (fun _ => Nat.le_refl 4) ?_
        rintro y2 ⟨o1, o2⟩
        by_cases hyl2 : y2 < s.args.length
        · obtain ⟨x, hy⟩ : ∃ x, s.args[y2]? = some x := ⟨s.args[y2], List.getElem?_eq_getElem hyl2⟩
          obtain ⟨hd3, hlt3⟩ := drop_some hy
          have ey2 : decide ((y2 : Int) < (s.args.length : Int)) = true := decide_eq_true (by omega)
          have hxl : x.length ≤ 1048576 := by
            have := wL_mem (w := wL wItm) (List.mem_of_getElem? hy)
            simp only [wSm, wL] at this hs
            omega
          rw [hd3, List.all_cons] at o2
          cases hq : mcodeS c x with
          | false =>
            have n5 : (!mcodeS c x) = true := by rw [hq]; rfl
            rw [hq] at o2
            have o2 : false = s.args.all (mcodeS c) := o2
            rw [← o2] at hm
            repeat' first
              | refine Z1 ?_ | refine Z2 ?_ | refine Z5 ?_ | refine Zc (mcode_ok c x hw hxl) ?_ | refine Ze ?_ | refine Zo ?_ | refine ok_seq ?_ | refine Zp ?_ | refine ok_block ?_ | refine ok_skip ?_ | refine ok_ret ?_
              | refine x_normal_then ?_ | refine x_ret_then ?_ | refine x_ret_block ?_ | refine Zt ?_
            exact ret_vb hm.symm
          | true =>
            have n5 : (!mcodeS c x) = false := by rw [hq]; rfl
            rw [hq, Bool.true_and] at o2
            repeat' first
              | refine Z1 ?_ | refine Z2 ?_ | refine Z5 ?_ | refine Zc (mcode_ok c x hw hxl) ?_ | refine Ze ?_ | refine Zf ?_ | refine Zo ?_ | refine ok_seq ?_ | refine ok_reg ?_ | refine Zp ?_ | refine Zq ?_ | refine ok_block ?_
              | refine ok_skip ?_ | refine x_normal_then ?_ | refine x_normal_block ?_
            exact ⟨y2 + 1, ⟨hlt3, o2⟩, by (try simp only); omega, low_mk (Nat.le_of_ble_eq_true rfl) ⟨⟨rfl, rfl⟩, ⟨rfl, rfl⟩, ⟨rfl, rfl⟩, ⟨rfl, rfl⟩, ⟨rfl, rfl⟩, ⟨rfl, rfl⟩, trivial⟩ ⟨⟨rfl, rfl⟩, ⟨rfl, rfl⟩, ⟨rfl, rfl⟩, trivial⟩⟩
        have ey2 : decide ((y2 : Int) < (s.args.length : Int)) = false := decide_eq_false (by omega)
        rw [List.drop_eq_nil_of_le (by omega)] at o2
        have o2 : true = s.args.all (mcodeS c) := o2
        rw [← o2] at hm
        repeat' first
          | refine Z1 ?_ | refine Z2 ?_ | refine Zo ?_ | refine ok_seq ?_ | refine Zq ?_ | refine ok_exit ?_ | refine ok_ret ?_ | refine x_normal_then ?_ | refine x_exit_here ?_ | refine Zv ?_ | refine x_ret_then ?_ | refine x_ret_block ?_
          | refine Zt ?_
        exact ret_vb hm.symm
      · have n4 : decide ((s.args.length : Int) ≠ (d.ins.length : Int)) = true := decide_eq_true (fun h => hi (by omega))
        rw [if_neg (fun h => hi h.2)] at hm
        repeat' first
          | refine Z1 ?_ | refine Z2 ?_ | refine Z5 ?_ | refine Z7 ?_ | refine Zd ?_ | refine Zh ?_ | refine Zi ?_ | refine Zm ?_ | refine Zo ?_ | refine ok_seq ?_ | refine Zp ?_ | refine ok_ret ?_ | refine x_ret_then ?_
          | refine x_ret_block ?_ | refine Zt ?_
        exact ret_vb hm.symm
    · have n3 : decide ((s.outs.length : Int) ≠ (d.outs.length : Int)) = true := decide_eq_true (fun h => ho (by omega))
      rw [if_neg (fun h => ho h.1)] at hm
      repeat' first
        | refine Z1 ?_ | refine Z2 ?_ | refine Z5 ?_ | refine Z9 ?_ | refine Zd ?_ | refine Zl ?_ | refine Zo ?_ | refine ok_seq ?_ | refine Zp ?_ | refine ok_ret ?_ | refine x_ret_then ?_ | refine x_ret_block ?_ | refine Zt ?_
      exact ret_vb hm.symm
  have q3 : decide (s.kind = 3) = false := decide_eq_false k3
  rw [if_neg k3] at hm
  repeat' first
    | refine Z1 ?_ | refine Z2 ?_ | refine Zo ?_ | refine ok_seq ?_ | refine ok_reg ?_ | refine Zq ?_ | refine ok_block ?_ | refine ok_skip ?_ | refine ok_ret ?_ | refine x_normal_then ?_ | refine x_normal_block ?_ | refine Zt ?_
  exact ret_vb hm.symm
end Go.Pm
/- Machines of the specification: one class. -/
set_option linter.unusedVariables false
set_option linter.unusedSimpArgs false
namespace Go.Pm
attribute [local irreducible] AR Ok inBlock andThen endQ aoper
set_option maxHeartbeats 4000000
open Go.Proofs
def headS (c : Cls) : Bool := (!nameS c.name) || decide ((c.outs.length : Int) < 1) || decide (1000 < (c.mems.length : Int)) || decide (1000 < (c.insts.length : Int)) || decide (30000 < (c.body.length : Int))
def varsGo (V : List ByteArray) : Nat → List ByteArray → Bool
  | _, [] => true
  | i, x :: l => if nameS x = false ∨ placeS x 0 V < (i : Int) then false else varsGo V (i + 1) l
def typS (x : Slt) : Bool := decide (1 ≤ x.type) && decide (x.type ≤ 2)
def sameN (c d : Cls) : Bool := decide (d.name = c.name)
def fitS (v : Int) : Bool := decide (v = wrapS v)
def insS (k : Nat) (g : Int) : Bool := decide (0 ≤ g) && decide (g < (k : Int))
def classS (cs : List Cls) (k : Nat) (c : Cls) : Bool :=
  if headS c = true then false
  else if (cs.take k).any (sameN c) = true then false
  else if 1000 < ((nmsC c).length : Int) then false
  else if varsGo (nmsC c) 0 (nmsC c) = false then false
  else if (c.ins ++ c.outs).all typS = false then false
  else if c.mems.all fitS = false then false
  else if c.insts.all (insS k) = false then false
  else if c.body.all (stmS cs c) = false then false
  else if nestV c.body 0 = false then false
  else withinS writesS c.body
theorem parts_lt {l : List Sm} {i : Nat} {s : Sm} (hx : l[i]? = some s) (h4 : s.kind = 4) {O E : Int} (hp : partsS l i = (O, E)) : E < (l.length : Int) := by
  obtain ⟨hd, hlt⟩ := drop_some hx
  unfold partsS at hp
  rw [hd, go_if h4] at hp
  by_cases hE : E < 0
  · omega
  obtain ⟨q, h1, f, h2, _⟩ := parts_at _ _ _ _ _ _ (by omega) hp (by omega)
  have := (List.getElem?_eq_some_iff.1 h2).1
  rw [List.length_drop] at this
  omega
theorem all_of {α : Type} {p : α → Bool} {l : List α} {k : Nat} (h : (l.drop k).all p = l.all p) {x : α} (hx : l[k]? = some x) : (p x = false → l.all p = false) ∧ (p x = true → (l.drop (k + 1)).all p = l.all p) := by
  rw [(drop_some hx).1, List.all_cons] at h
  exact ⟨fun e => by rw [← h, e]; rfl, fun e => by rw [← h, e]; rfl⟩
theorem sclass_ok (cs : List Cls) (k : Nat) (c : Cls) (hx0 : cs[k]? = some c) (hw : wL wCls cs ≤ 1048576) : PFun X 34 [.agg [.d (.im (cs.map eCls))], vi k] (vb (classS cs k c)) := by
  have hcl : cs.length ≤ 1048576 := by simp only [wL] at hw; omega
  have hk := (drop_some hx0).2
  have hwc : wCls c ≤ 1048576 := by have := wL_mem (w := wCls) (List.mem_of_getElem? hx0); simp only [wL] at hw; omega
  have hnl := nms_le hwc
  have hl := cls_le hwc
  have hws : ∀ s ∈ c.body, wSm s ≤ 1048576 := fun s hs => by have := wL_mem (w := wSm) hs; simp only [wCls, wL] at hwc; omega
  have hm : classS cs k c = classS cs k c := rfl
  conv at hm => rhs; unfold classS
  refine pfun_of Tryd.func34 rfl (by decide) Tryd.ntmps34 Tryd.results34 (by simp) rfl rfl ?_
  refine Zo ?_
  repeat' first
    | refine Z1 ?_ | refine Z2 ?_
  refine Zo ?_
  repeat' first
    | refine Z1 ?_ | refine Z2 ?_ | refine Z5 ?_ | refine Ze ?_
  refine ok_seq ?_
  refine ok_cut (envL [(55, vb (headS c)), (1, vi k), (2, .ref 0 0), (5, .ref 1 0)]) (stL [some (.var [.d (.im (cs.map eCls))]), some (.var ((eCls c).map .d))]) ?_ ?_
  ·
    repeat' first
      | refine Z1 ?_ | refine Z3 ?_ | refine Z5 ?_ | refine Z7 ?_ | refine Z9 ?_ | refine Zb (fun hc => ?_) (fun hc => ?_) | refine Zc (sname_ok c.name) ?_ | refine Zd ?_ | refine Zh ?_ | refine Zi ?_ | refine Zl ?_ | refine Zm ?_
      | refine ok_reg ?_
    all_goals exact ⟨rfl, weak_mk rfl ⟨bq (by simp only [headS, *]; try rfl), .refl _, .refl _, .refl _, trivial⟩ ⟨⟨rfl, _, rfl, rfl, fun _ _ _ => .refl _⟩, ⟨rfl, _, rfl, rfl, fun _ _ _ => .refl _⟩, trivial⟩⟩
  cases h1 : headS c with
  | true =>
    rw [if_pos h1] at hm
    repeat' first
      | refine Z1 ?_ | refine Z2 ?_ | refine Zo ?_ | refine Zp ?_ | refine ok_ret ?_ | refine x_ret_then ?_ | refine Zt ?_
    exact ret_vb hm.symm
  | false =>
  rw [if_neg (by rw [h1]; simp)] at hm
  refine Zq ?_
  refine ok_skip ?_
  refine x_normal_then ?_
  repeat' first
    | refine Z1 ?_ | refine Z2 ?_ | refine Zo ?_ | refine ok_seq ?_ | refine ok_block ?_
  refine ok_for (ι := Nat) (fun x => envL [(1, vi k), (2, .ref 0 0), (5, .ref 1 0), (6, vi x)]) (fun x => stL [some (.var [.d (.im (cs.map eCls))]), some (.var ((eCls c).map .d))]) (fun x => x ≤ k ∧ ((cs.take k).drop x).any (sameN c) = (cs.take k).any (sameN c)) (fun x => k - x) 0 (⟨Nat.zero_le _, rfl⟩) (weak_mk rfl ⟨.refl _, .refl _, .refl _, .refl _, trivial⟩ ⟨⟨rfl, _, rfl, rfl, fun _ _ _ => .refl _⟩, ⟨rfl, _, rfl, rfl, fun _ _ _ => .refl _⟩, trivial⟩) (fun _ => Nat.le_refl 2) ?_
  rintro x ⟨i1, i2⟩
  by_cases hxk : x < k
  · have ex : decide ((x : Int) < (k : Int)) = true := decide_eq_true (by omega)
    obtain ⟨d, hd⟩ : ∃ d, cs[x]? = some d := ⟨cs[x]'(by omega), List.getElem?_eq_getElem (by omega)⟩
    have hd2 : (cs.take k)[x]? = some d := by rw [List.getElem?_take, if_pos hxk]; exact hd
    rw [(drop_some hd2).1, List.any_cons] at i2
    cases hq : decide (d.name = c.name) with
    | true =>
      have hm : classS cs k c = false := by rw [hm, if_pos]; rw [← i2, show sameN c d = true from hq]; rfl
      repeat' first
        | refine Z1 ?_ | refine Z2 ?_ | refine Zw ?_ | refine Zx ?_ | refine Zz (Ze ⟨rfl, rfl⟩) ?_ | refine Zo ?_ | refine ok_seq ?_ | refine ok_draw X_mixed (by decide +kernel) ?_ | refine Zp ?_ | refine ok_block ?_ | refine ok_skip ?_
        | refine ok_ret ?_ | refine x_normal_then ?_ | refine x_ret_then ?_ | refine x_ret_block ?_ | refine Zt ?_
      exact ret_vb hm.symm
    | false =>
      rw [show sameN c d = false from hq, Bool.false_or] at i2
      repeat' first
        | refine Z1 ?_ | refine Z2 ?_ | refine Z5 ?_ | refine Zf ?_ | refine Zw ?_ | refine Zx ?_ | refine Zz (Ze ⟨rfl, rfl⟩) ?_ | refine Zo ?_ | refine ok_seq ?_ | refine ok_reg ?_ | refine ok_draw X_mixed (by decide +kernel) ?_
        | refine Zp ?_ | refine Zq ?_ | refine ok_block ?_ | refine ok_skip ?_ | refine x_normal_then ?_ | refine x_normal_block ?_
      exact ⟨x + 1, ⟨hxk, i2⟩, by (try simp only); omega, low_mk (Nat.le_of_ble_eq_true rfl) ⟨⟨rfl, rfl⟩, ⟨rfl, rfl⟩, ⟨rfl, rfl⟩, ⟨rfl, rfl⟩, trivial⟩ ⟨⟨rfl, rfl⟩, ⟨rfl, rfl⟩, trivial⟩⟩
  have ex : decide ((x : Int) < (k : Int)) = false := decide_eq_false (by omega)
  rw [List.drop_eq_nil_of_le (by rw [List.length_take]; omega)] at i2
  have i2 : false = (cs.take k).any (sameN c) := i2
  rw [if_neg (by rw [← i2]; simp)] at hm
  by_cases h3 : 1000 < ((nmsC c).length : Int)
  · have e3 : decide (1000 < ((nmsC c).length : Int)) = true := decide_eq_true h3
    rw [if_pos h3] at hm
    repeat' first
      | refine Z1 ?_ | refine Z2 ?_ | refine Z5 ?_ | refine Zc (svarsC_ok c hwc) ?_ | refine Zd ?_ | refine Zo ?_ | refine ok_seq ?_ | refine Zp ?_ | refine Zq ?_ | refine ok_exit ?_ | refine ok_ret ?_ | refine x_normal_then ?_
      | refine x_exit_here ?_ | refine Zv ?_ | refine x_ret_then ?_ | refine Zt ?_
    exact ret_vb hm.symm
  have e3 : decide (1000 < ((nmsC c).length : Int)) = false := decide_eq_false h3
  rw [if_neg h3] at hm
  repeat' first
    | refine Z1 ?_ | refine Z2 ?_ | refine Z5 ?_ | refine Zc (svarsC_ok c hwc) ?_ | refine Zd ?_ | refine Zo ?_ | refine ok_seq ?_ | refine Zq ?_ | refine ok_block ?_ | refine ok_exit ?_ | refine ok_skip ?_ | refine x_normal_then ?_
    | refine x_exit_here ?_ | refine Zv ?_
  refine ok_for (ι := Nat) (fun x => envL [(1, vi k), (2, .ref 0 0), (5, .ref 1 0), (7, .d (.im ((nmsC c).map eStr))), (75, .d (.im ((nmsC c).map eStr))), (76, vi (nmsC c).length), (77, vi x)]) (fun x => stL [some (.var [.d (.im (cs.map eCls))]), some (.var ((eCls c).map .d))]) (fun x => x ≤ (nmsC c).length ∧ varsGo (nmsC c) x ((nmsC c).drop x) = varsGo (nmsC c) 0 (nmsC c)) (fun x => (nmsC c).length - x) 0 (⟨Nat.zero_le _, rfl⟩) (weak_mk rfl ⟨.refl _, .refl _, .refl _, .refl _, .refl _, .refl _, .refl _, trivial⟩ ⟨⟨rfl, _, rfl, rfl, fun _ _ _ => .refl _⟩, ⟨rfl, _, rfl, rfl, fun _ _ _ => .refl _⟩, trivial⟩) (fun _ => Nat.le_refl 2) ?_
  rintro x ⟨i1, i2⟩
  rcases hx : (nmsC c)[x]? with _ | y
  rotate_left
  · obtain ⟨hd, hlt⟩ := drop_some hx
    have ek : decide ((x : Int) < ((nmsC c).length : Int)) = true := decide_eq_true (by omega)
    rw [hd] at i2
    simp only [varsGo] at i2
    cases hn : nameS y with
    | false =>
      have n1 : (!nameS y) = true := by rw [hn]; rfl
      rw [if_pos (.inl hn)] at i2
      rw [if_pos i2.symm] at hm
      repeat' first
        | refine Z1 ?_ | refine Z2 ?_ | refine Z5 ?_ | refine Z9 ?_ | refine Zc (sname_ok y) ?_ | refine Ze ?_ | refine Zl ?_ | refine Zo ?_ | refine ok_seq ?_ | refine Zp ?_ | refine ok_block ?_ | refine ok_skip ?_ | refine ok_ret ?_
        | refine x_normal_then ?_ | refine x_ret_then ?_ | refine x_ret_block ?_ | refine Zt ?_
      exact ret_vb hm.symm
    | true =>
      have n1 : (!nameS y) = false := by rw [hn]; rfl
      by_cases hp : placeS y 0 (nmsC c) < (x : Int)
      · have n2 : decide (placeS y 0 (nmsC c) < (x : Int)) = true := decide_eq_true hp
        rw [if_pos (.inr hp)] at i2
        rw [if_pos i2.symm] at hm
        repeat' first
          | refine Z1 ?_ | refine Z2 ?_ | refine Z5 ?_ | refine Z7 ?_ | refine Zc (sname_ok y) ?_ | refine Zc (splace_ok (nmsC c) y hnl) ?_ | refine Ze ?_ | refine Zh ?_ | refine Zi ?_ | refine Zm ?_ | refine Zo ?_ | refine ok_seq ?_
          | refine Zp ?_ | refine ok_block ?_ | refine ok_skip ?_ | refine ok_ret ?_ | refine x_normal_then ?_ | refine x_ret_then ?_ | refine x_ret_block ?_ | refine Zt ?_
        exact ret_vb hm.symm
      · have n2 : decide (placeS y 0 (nmsC c) < (x : Int)) = false := decide_eq_false hp
        rw [if_neg (fun h => h.elim (by rw [hn]; intro h; cases h) hp)] at i2
        repeat' first
          | refine Z1 ?_ | refine Z2 ?_ | refine Z5 ?_ | refine Z7 ?_ | refine Zc (sname_ok y) ?_ | refine Zc (splace_ok (nmsC c) y hnl) ?_ | refine Ze ?_ | refine Zf ?_ | refine Zh ?_ | refine Zi ?_ | refine Zm ?_ | refine Zo ?_
          | refine ok_seq ?_ | refine ok_reg ?_ | refine Zp ?_ | refine Zq ?_ | refine ok_block ?_ | refine ok_skip ?_ | refine x_normal_then ?_ | refine x_normal_block ?_
        exact ⟨x + 1, ⟨hlt, i2⟩, by (try simp only); omega, low_mk (Nat.le_of_ble_eq_true rfl) ⟨⟨rfl, rfl⟩, ⟨rfl, rfl⟩, ⟨rfl, rfl⟩, ⟨rfl, rfl⟩, ⟨rfl, rfl⟩, ⟨rfl, rfl⟩, ⟨rfl, rfl⟩, trivial⟩ ⟨⟨rfl, rfl⟩, ⟨rfl, rfl⟩, trivial⟩⟩
  have hle := none_le hx
  have ek : decide ((x : Int) < ((nmsC c).length : Int)) = false := decide_eq_false (by omega)
  rw [drop_none hx] at i2
  have i2 : true = varsGo (nmsC c) 0 (nmsC c) := i2
  rw [if_neg (by rw [← i2]; simp)] at hm
  repeat' first
    | refine Z1 ?_ | refine Z2 ?_ | refine Zo ?_ | refine ok_seq ?_ | refine Zq ?_ | refine ok_exit ?_ | refine x_normal_then ?_ | refine x_exit_here ?_ | refine Zv ?_
  refine ok_drawE (fun j => j = 1) [0, 3, 6] X_mixed (by decide +kernel) ?_
  refine We (Yw (sz := 2) (rows := []) (n := 2) ⟨rfl, rfl⟩) (.inr (fun j hj => by rw [St.obj_alloc, if_neg (by show ¬ j = 2; omega)])) ?_
  repeat' first
    | refine Wa ?_ | refine Wl (i := 1) rfl rfl ?_
  refine We (Yl (e := eSlt) (l := []) c.ins ⟨rfl, rfl⟩) (.inr (fun j hj => by rw [obj_bumpSet, if_neg (by omega)])) ?_
  repeat' first
    | refine Wa ?_ | refine Wl (i := 1) rfl rfl ?_
  refine We (Yl (e := eSlt) (l := [] ++ c.ins) c.outs ⟨rfl, rfl⟩) (.inr (fun j hj => by rw [obj_bumpSet, if_neg (by omega)])) ?_
  repeat' first
    | refine Wa ?_
  refine Wx ?_
  repeat' first
    | refine ok_block ?_
  refine ok_for (ι := Nat) (fun x => envL [(1, vi k), (2, .ref 0 0), (5, .ref 1 0), (99, .sl 2 4 0 (c.ins ++ c.outs).length), (100, vi (c.ins ++ c.outs).length), (101, vi x)]) (fun x => stL [some (.var [.d (.im (cs.map eCls))]), some (.var ((eCls c).map .d)), some (.row 4 79 2 (im2 eSlt (c.ins ++ c.outs))), none, none]) (fun x => x ≤ (c.ins ++ c.outs).length ∧ ((c.ins ++ c.outs).drop x).all typS = (c.ins ++ c.outs).all typS) (fun x => (c.ins ++ c.outs).length - x) 0 (⟨Nat.zero_le _, rfl⟩) (weak_mk rfl ⟨.refl _, .refl _, .refl _, .refl _, .refl _, .refl _, trivial⟩ ⟨⟨rfl, _, rfl, rfl, fun _ _ _ => .refl _⟩, ⟨rfl, _, rfl, rfl, fun _ _ _ => .refl _⟩, ⟨rfl, _, rfl, rfl, rfl, rfl, rfl⟩, trivial⟩) (fun _ => Nat.le_refl 5) ?_
  rintro x ⟨i1, i2⟩
  have hll : (c.ins ++ c.outs).length ≤ 1048576 := by rw [List.length_append]; omega
  rcases hx : (c.ins ++ c.outs)[x]? with _ | y
  rotate_left
  · obtain ⟨hd, hlt⟩ := drop_some hx
    have ek : decide ((x : Int) < ((c.ins ++ c.outs).length : Int)) = true := decide_eq_true (by omega)
    obtain ⟨a1, a2⟩ := all_of i2 hx
    have hr : (im2 eSlt (c.ins ++ c.outs))[x]? = some ((eSlt y).map .d) := im2_get hx
    by_cases t1 : y.type < 1
    · have u1 : decide (y.type < 1) = true := decide_eq_true t1
      rw [if_pos (a1 (by simp only [typS]; rw [decide_eq_false (by omega)]; rfl))] at hm
      repeat' first
        | refine Z1 ?_ | refine Z2 ?_ | refine Z5 ?_ | refine Z9 ?_ | refine Yf (n := (x : Int)) x rfl hlt ?_ | refine Ye hr ?_ | refine Zl ?_ | refine Zo ?_ | refine ok_seq ?_ | refine Zp ?_ | refine ok_block ?_ | refine ok_skip ?_
        | refine ok_ret ?_ | refine x_normal_then ?_ | refine x_ret_then ?_ | refine x_ret_block ?_ | refine Zt ?_
      exact ret_vb hm.symm
    have u1 : decide (y.type < 1) = false := decide_eq_false t1
    by_cases t2 : 2 < y.type
    · have u2 : decide (2 < y.type) = true := decide_eq_true t2
      rw [if_pos (a1 (by simp only [typS]; rw [decide_eq_false (show ¬ y.type ≤ 2 by omega), Bool.and_false]))] at hm
      repeat' first
        | refine Z1 ?_ | refine Z2 ?_ | refine Z5 ?_ | refine Z7 ?_ | refine Yf (n := (x : Int)) x rfl hlt ?_ | refine Ye hr ?_ | refine Zh ?_ | refine Zi ?_ | refine Zm ?_ | refine Zo ?_ | refine ok_seq ?_ | refine Zp ?_ | refine ok_block ?_
        | refine ok_skip ?_ | refine ok_ret ?_ | refine x_normal_then ?_ | refine x_ret_then ?_ | refine x_ret_block ?_ | refine Zt ?_
      exact ret_vb hm.symm
    have u2 : decide (2 < y.type) = false := decide_eq_false t2
    repeat' first
      | refine Z1 ?_ | refine Z2 ?_ | refine Z5 ?_ | refine Z7 ?_ | refine Yf (n := (x : Int)) x rfl hlt ?_ | refine Ye hr ?_ | refine Zf ?_ | refine Zh ?_ | refine Zi ?_ | refine Zm ?_ | refine Zo ?_ | refine ok_seq ?_ | refine ok_reg ?_
      | refine Zp ?_ | refine Zq ?_ | refine ok_block ?_ | refine ok_skip ?_ | refine x_normal_then ?_ | refine x_normal_block ?_
    exact ⟨x + 1, ⟨hlt, a2 (by simp only [typS]; rw [decide_eq_true (show 1 ≤ y.type by omega), decide_eq_true (show y.type ≤ 2 by omega)]; rfl)⟩, by (try simp only); omega, low_mk (Nat.le_of_ble_eq_true rfl) ⟨⟨rfl, rfl⟩, ⟨rfl, rfl⟩, ⟨rfl, rfl⟩, ⟨rfl, rfl⟩, ⟨rfl, rfl⟩, ⟨rfl, rfl⟩, trivial⟩ ⟨⟨rfl, rfl⟩, ⟨rfl, rfl⟩, ⟨rfl, blt_lt rfl, im2_low _ _ _⟩, trivial⟩⟩
  have hle := none_le hx
  have ek : decide ((x : Int) < ((c.ins ++ c.outs).length : Int)) = false := decide_eq_false (by omega)
  rw [drop_none hx] at i2
  have i2 : true = (c.ins ++ c.outs).all typS := i2
  rw [if_neg (by rw [← i2]; simp)] at hm
  repeat' first
    | refine Z1 ?_ | refine Z2 ?_ | refine Z5 ?_ | refine Zd ?_ | refine Zo ?_ | refine ok_seq ?_ | refine Zq ?_ | refine ok_block ?_ | refine ok_exit ?_ | refine x_normal_then ?_ | refine x_exit_here ?_ | refine Zv ?_
  refine ok_for (ι := Nat) (fun x => envL [(1, vi k), (2, .ref 0 0), (5, .ref 1 0), (115, .d (.im (c.mems.map eNum))), (116, vi c.mems.length), (117, vi x)]) (fun x => stL [some (.var [.d (.im (cs.map eCls))]), some (.var ((eCls c).map .d)), none, none, none]) (fun x => x ≤ c.mems.length ∧ (c.mems.drop x).all fitS = c.mems.all fitS) (fun x => c.mems.length - x) 0 (⟨Nat.zero_le _, rfl⟩) (weak_mk rfl ⟨.refl _, .refl _, .refl _, .refl _, .refl _, .refl _, trivial⟩ ⟨⟨rfl, _, rfl, rfl, fun _ _ _ => .refl _⟩, ⟨rfl, _, rfl, rfl, fun _ _ _ => .refl _⟩, trivial⟩) (fun _ => Nat.le_refl 5) ?_
  rintro x ⟨i1, i2⟩
  rcases hx : c.mems[x]? with _ | v
  rotate_left
  · obtain ⟨hd, hlt⟩ := drop_some hx
    have ek : decide ((x : Int) < (c.mems.length : Int)) = true := decide_eq_true (by omega)
    obtain ⟨a1, a2⟩ := all_of i2 hx
    by_cases t1 : v = wrapS v
    · have u1 : decide (v ≠ wrapS v) = false := decide_eq_false (fun h => h t1)
      repeat' first
        | refine Z1 ?_ | refine Z2 ?_ | refine Z5 ?_ | refine Zc (swrap_ok v) ?_ | refine Ze ?_ | refine Zf ?_ | refine Zo ?_ | refine ok_seq ?_ | refine ok_reg ?_ | refine Zp ?_ | refine Zq ?_ | refine ok_block ?_ | refine ok_skip ?_
        | refine x_normal_then ?_ | refine x_normal_block ?_
      exact ⟨x + 1, ⟨hlt, a2 (decide_eq_true t1)⟩, by (try simp only); omega, low_mk (Nat.le_of_ble_eq_true rfl) ⟨⟨rfl, rfl⟩, ⟨rfl, rfl⟩, ⟨rfl, rfl⟩, ⟨rfl, rfl⟩, ⟨rfl, rfl⟩, ⟨rfl, rfl⟩, trivial⟩ ⟨⟨rfl, rfl⟩, ⟨rfl, rfl⟩, trivial⟩⟩
    · have u1 : decide (v ≠ wrapS v) = true := decide_eq_true t1
      rw [if_pos (a1 (decide_eq_false t1))] at hm
      repeat' first
        | refine Z1 ?_ | refine Z2 ?_ | refine Z5 ?_ | refine Zc (swrap_ok v) ?_ | refine Ze ?_ | refine Zo ?_ | refine ok_seq ?_ | refine Zp ?_ | refine ok_block ?_ | refine ok_skip ?_ | refine ok_ret ?_ | refine x_normal_then ?_
        | refine x_ret_then ?_ | refine x_ret_block ?_ | refine Zt ?_
      exact ret_vb hm.symm
  have hle := none_le hx
  have ek : decide ((x : Int) < (c.mems.length : Int)) = false := decide_eq_false (by omega)
  rw [drop_none hx] at i2
  have i2 : true = c.mems.all fitS := i2
  rw [if_neg (by rw [← i2]; simp)] at hm
  repeat' first
    | refine Z1 ?_ | refine Z2 ?_ | refine Z5 ?_ | refine Zd ?_ | refine Zo ?_ | refine ok_seq ?_ | refine Zq ?_ | refine ok_block ?_ | refine ok_exit ?_ | refine x_normal_then ?_ | refine x_exit_here ?_ | refine Zv ?_
  refine ok_for (ι := Nat) (fun x => envL [(1, vi k), (2, .ref 0 0), (5, .ref 1 0), (127, .d (.im (c.insts.map eNum))), (128, vi c.insts.length), (129, vi x)]) (fun x => stL [some (.var [.d (.im (cs.map eCls))]), some (.var ((eCls c).map .d)), none, none, none]) (fun x => x ≤ c.insts.length ∧ (c.insts.drop x).all (insS k) = c.insts.all (insS k)) (fun x => c.insts.length - x) 0 (⟨Nat.zero_le _, rfl⟩) (weak_mk rfl ⟨.refl _, .refl _, .refl _, .refl _, .refl _, .refl _, trivial⟩ ⟨⟨rfl, _, rfl, rfl, fun _ _ _ => .refl _⟩, ⟨rfl, _, rfl, rfl, fun _ _ _ => .refl _⟩, trivial⟩) (fun _ => Nat.le_refl 5) ?_
  rintro x ⟨i1, i2⟩
  rcases hx : c.insts[x]? with _ | v
  rotate_left
  · obtain ⟨hd, hlt⟩ := drop_some hx
    have ek : decide ((x : Int) < (c.insts.length : Int)) = true := decide_eq_true (by omega)
    obtain ⟨a1, a2⟩ := all_of i2 hx
    by_cases t1 : v < 0
    · have u1 : decide (v < 0) = true := decide_eq_true t1
      rw [if_pos (a1 (by simp only [insS]; rw [decide_eq_false (show ¬ 0 ≤ v by omega)]; rfl))] at hm
      repeat' first
        | refine Z1 ?_ | refine Z2 ?_ | refine Z5 ?_ | refine Z9 ?_ | refine Ze ?_ | refine Zl ?_ | refine Zo ?_ | refine ok_seq ?_ | refine Zp ?_ | refine ok_block ?_ | refine ok_skip ?_ | refine ok_ret ?_ | refine x_normal_then ?_
        | refine x_ret_then ?_ | refine x_ret_block ?_ | refine Zt ?_
      exact ret_vb hm.symm
    have u1 : decide (v < 0) = false := decide_eq_false t1
    by_cases t2 : (k : Int) ≤ v
    · have u2 : decide ((k : Int) ≤ v) = true := decide_eq_true t2
      rw [if_pos (a1 (by simp only [insS]; rw [decide_eq_false (show ¬ v < (k : Int) by omega), Bool.and_false]))] at hm
      repeat' first
        | refine Z1 ?_ | refine Z2 ?_ | refine Z5 ?_ | refine Z7 ?_ | refine Ze ?_ | refine Zh ?_ | refine Zi ?_ | refine Zm ?_ | refine Zo ?_ | refine ok_seq ?_ | refine Zp ?_ | refine ok_block ?_ | refine ok_skip ?_ | refine ok_ret ?_
        | refine x_normal_then ?_ | refine x_ret_then ?_ | refine x_ret_block ?_ | refine Zt ?_
      exact ret_vb hm.symm
    have u2 : decide ((k : Int) ≤ v) = false := decide_eq_false t2
    repeat' first
      | refine Z1 ?_ | refine Z2 ?_ | refine Z5 ?_ | refine Z7 ?_ | refine Ze ?_ | refine Zf ?_ | refine Zh ?_ | refine Zi ?_ | refine Zm ?_ | refine Zo ?_ | refine ok_seq ?_ | refine ok_reg ?_ | refine Zp ?_ | refine Zq ?_
      | refine ok_block ?_ | refine ok_skip ?_ | refine x_normal_then ?_ | refine x_normal_block ?_
    exact ⟨x + 1, ⟨hlt, a2 (by simp only [insS]; rw [decide_eq_true (show 0 ≤ v by omega), decide_eq_true (show v < (k : Int) by omega)]; rfl)⟩, by (try simp only); omega, low_mk (Nat.le_of_ble_eq_true rfl) ⟨⟨rfl, rfl⟩, ⟨rfl, rfl⟩, ⟨rfl, rfl⟩, ⟨rfl, rfl⟩, ⟨rfl, rfl⟩, ⟨rfl, rfl⟩, trivial⟩ ⟨⟨rfl, rfl⟩, ⟨rfl, rfl⟩, trivial⟩⟩
  have hle := none_le hx
  have ek : decide ((x : Int) < (c.insts.length : Int)) = false := decide_eq_false (by omega)
  rw [drop_none hx] at i2
  have i2 : true = c.insts.all (insS k) := i2
  rw [if_neg (by rw [← i2]; simp)] at hm
  have hin : ∀ g ∈ c.insts, 0 ≤ g ∧ g < (k : Int) := fun g hg => by
    have := List.all_eq_true.1 i2.symm g hg
    simpa [insS] using this
  repeat' first
    | refine Z1 ?_ | refine Z2 ?_ | refine Z5 ?_ | refine Zd ?_ | refine Zo ?_ | refine ok_seq ?_ | refine Zq ?_ | refine ok_block ?_ | refine ok_exit ?_ | refine x_normal_then ?_ | refine x_exit_here ?_ | refine Zv ?_
  refine ok_for (ι := Nat) (fun x => envL [(1, vi k), (2, .ref 0 0), (5, .ref 1 0), (142, .d (.im (c.body.map eSm))), (143, vi c.body.length), (144, vi x)]) (fun x => stL [some (.var [.d (.im (cs.map eCls))]), some (.var ((eCls c).map .d)), none, none, none]) (fun x => x ≤ c.body.length ∧ (c.body.drop x).all (stmS cs c) = c.body.all (stmS cs c)) (fun x => c.body.length - x) 0 (⟨Nat.zero_le _, rfl⟩) (weak_mk rfl ⟨.refl _, .refl _, .refl _, .refl _, .refl _, .refl _, trivial⟩ ⟨⟨rfl, _, rfl, rfl, fun _ _ _ => .refl _⟩, ⟨rfl, _, rfl, rfl, fun _ _ _ => .refl _⟩, trivial⟩) (fun _ => Nat.le_refl 5) ?_
  rintro x ⟨i1, i2⟩
  rcases hx : c.body[x]? with _ | s
  rotate_left
  · obtain ⟨hd, hlt⟩ := drop_some hx
    have ek : decide ((x : Int) < (c.body.length : Int)) = true := decide_eq_true (by omega)
    obtain ⟨a1, a2⟩ := all_of i2 hx
    have hst := sstm_ok cs k c s hcl hwc (hws s (List.mem_of_getElem? hx)) hk hin
    cases hq : stmS cs c s with
    | false =>
      have n1 : (!stmS cs c s) = true := by rw [hq]; rfl
      rw [if_pos (a1 hq)] at hm
      repeat' first
        | refine Z1 ?_ | refine Z2 ?_ | refine Z5 ?_ | refine Zc (hst) ?_ | refine Ze ?_ | refine Zo ?_ | refine ok_seq ?_ | refine Zp ?_ | refine ok_block ?_ | refine ok_skip ?_ | refine ok_ret ?_ | refine x_normal_then ?_
        | refine x_ret_then ?_ | refine x_ret_block ?_ | refine Zt ?_
      exact ret_vb hm.symm
    | true =>
      have n1 : (!stmS cs c s) = false := by rw [hq]; rfl
      repeat' first
        | refine Z1 ?_ | refine Z2 ?_ | refine Z5 ?_ | refine Zc (hst) ?_ | refine Ze ?_ | refine Zf ?_ | refine Zo ?_ | refine ok_seq ?_ | refine ok_reg ?_ | refine Zp ?_ | refine Zq ?_ | refine ok_block ?_ | refine ok_skip ?_
        | refine x_normal_then ?_ | refine x_normal_block ?_
      exact ⟨x + 1, ⟨hlt, a2 hq⟩, by (try simp only); omega, low_mk (Nat.le_of_ble_eq_true rfl) ⟨⟨rfl, rfl⟩, ⟨rfl, rfl⟩, ⟨rfl, rfl⟩, ⟨rfl, rfl⟩, ⟨rfl, rfl⟩, ⟨rfl, rfl⟩, trivial⟩ ⟨⟨rfl, rfl⟩, ⟨rfl, rfl⟩, trivial⟩⟩
  have hle := none_le hx
  have ek : decide ((x : Int) < (c.body.length : Int)) = false := decide_eq_false (by omega)
  rw [drop_none hx] at i2
  have i2 : true = c.body.all (stmS cs c) := i2
  rw [if_neg (by rw [← i2]; simp)] at hm
  have hnest := snest_ok c.body.length c.body 0 rfl (by omega) (Int.le_refl _) (by omega)
  cases hnv : nestV c.body 0 with
  | false =>
    have n1 : (!nestV c.body 0) = true := by rw [hnv]; rfl
    rw [if_pos hnv] at hm
    repeat' first
      | refine Z1 ?_ | refine Z2 ?_ | refine Z5 ?_ | refine Zc (hnest) ?_ | refine Zo ?_ | refine ok_seq ?_ | refine Zp ?_ | refine Zq ?_ | refine ok_exit ?_ | refine ok_ret ?_ | refine x_normal_then ?_ | refine x_exit_here ?_ | refine Zv ?_
      | refine x_ret_then ?_ | refine Zt ?_
    exact ret_vb hm.symm
  | true =>
  have n1 : (!nestV c.body 0) = false := by rw [hnv]; rfl
  rw [if_neg (by rw [hnv]; simp)] at hm
  repeat' first
    | refine Z1 ?_ | refine Z2 ?_ | refine Z5 ?_ | refine Zc (hnest) ?_ | refine Zd ?_ | refine Zo ?_ | refine ok_seq ?_ | refine Zq ?_ | refine ok_block ?_ | refine ok_exit ?_ | refine ok_skip ?_ | refine x_normal_then ?_
    | refine x_exit_here ?_ | refine Zv ?_
  refine ok_for (ι := Nat) (fun x => envL [(1, vi k), (2, .ref 0 0), (5, .ref 1 0), (159, .d (.im (c.body.map eSm))), (160, vi c.body.length), (161, vi x)]) (fun x => stL [some (.var [.d (.im (cs.map eCls))]), some (.var ((eCls c).map .d)), none, none, none]) (fun x => x ≤ c.body.length ∧ ∀ j, j < x → withinAt writesS c.body j = true) (fun x => c.body.length - x) 0 (⟨Nat.zero_le _, fun j hj => by omega⟩) (weak_mk rfl ⟨.refl _, .refl _, .refl _, .refl _, .refl _, .refl _, trivial⟩ ⟨⟨rfl, _, rfl, rfl, fun _ _ _ => .refl _⟩, ⟨rfl, _, rfl, rfl, fun _ _ _ => .refl _⟩, trivial⟩) (fun _ => Nat.le_refl 5) ?_
  rintro q ⟨i1, i2⟩
  rcases hx : c.body[q]? with _ | s
  · have hle := none_le hx
    have ek : decide ((q : Int) < (c.body.length : Int)) = false := decide_eq_false (by omega)
    repeat' first
      | refine Z1 ?_ | refine Z2 ?_ | refine Zo ?_ | refine ok_seq ?_ | refine Zq ?_ | refine ok_exit ?_ | refine ok_ret ?_ | refine x_normal_then ?_ | refine x_exit_here ?_ | refine Zv ?_ | refine Zt ?_
    refine ret_vb (Eq.trans ?_ hm.symm)
    symm
    unfold withinS
    rw [List.all_eq_true]
    intro j hj
    exact i2 j (by have := List.mem_range.1 hj; omega)
  obtain ⟨hd, hlt⟩ := drop_some hx
  have ek : decide ((q : Int) < (c.body.length : Int)) = true := decide_eq_true (by omega)
  have nxt : withinAt writesS c.body q = true → ∀ j, j < q + 1 → withinAt writesS c.body j = true := by
    intro h j hj
    rcases Nat.lt_or_ge j q with h1 | h1
    · exact i2 j h1
    · rw [show j = q by omega]; exact h
  by_cases k4 : s.kind = 4
  · have d4 : decide (s.kind = 4) = true := decide_eq_true k4
    have hps := sparts_ok c.body q i1 (by omega)
    have hwq : withinAt writesS c.body q = !(((c.body.drop q).take ((partsS c.body q).2.toNat - q)).any fun t => writesS t s.name) := by
      unfold withinAt; rw [hx]; simp only [k4, if_true]
    rcases hp : partsS c.body q with ⟨O, E⟩
    have hEl := parts_lt hx k4 hp
    rw [hp] at hps hwq
    dsimp only at hwq
    repeat' first
      | refine Z1 ?_ | refine Z2 ?_ | refine Z5 ?_ | refine Zc (hps) ?_ | refine Ze ?_ | refine Zo ?_ | refine ok_seq ?_ | refine Zp ?_ | refine ok_block ?_ | refine ok_skip ?_ | refine x_normal_then ?_
    refine ok_for (ι := Nat) (fun x => envL [(1, vi k), (2, .ref 0 0), (5, .ref 1 0), (159, .d (.im (c.body.map eSm))), (160, vi c.body.length), (161, vi q), (19, .ref 5 0), (21, vi E), (22, vi x)]) (fun x => stL [some (.var [.d (.im (cs.map eCls))]), some (.var ((eCls c).map .d)), none, none, none, some (.var ((eSm s).map .d))]) (fun x => x ≤ c.body.length ∧ (((c.body.drop x).take (E.toNat - x)).any fun t => writesS t s.name) = (((c.body.drop q).take (E.toNat - q)).any fun t => writesS t s.name)) (fun x => c.body.length - x) q (⟨i1, rfl⟩) (weak_mk rfl ⟨.refl _, .refl _, .refl _, .refl _, .refl _, .refl _, .refl _, .refl _, .refl _, trivial⟩ ⟨⟨rfl, _, rfl, rfl, fun _ _ _ => .refl _⟩, ⟨rfl, _, rfl, rfl, fun _ _ _ => .refl _⟩, ⟨rfl, _, rfl, rfl, fun _ _ _ => .refl _⟩, trivial⟩) (fun _ => Nat.le_refl 6) ?_
    rintro x ⟨j1, j2⟩
    by_cases hxe : (x : Int) < E
    · have ee : decide ((x : Int) < E) = true := decide_eq_true hxe
      obtain ⟨t, ht⟩ : ∃ t, c.body[x]? = some t := ⟨c.body[x]'(by omega), List.getElem?_eq_getElem (by omega)⟩
      obtain ⟨hdt, hlt2⟩ := drop_some ht
      rw [hdt, show E.toNat - x = (E.toNat - (x + 1)) + 1 by omega, List.take_succ_cons, List.any_cons] at j2
      have hwt := swrites_ok t s.name (hws t (List.mem_of_getElem? ht))
      cases hq : writesS t s.name with
      | true =>
        rw [hq, Bool.true_or] at j2
        have hf : withinAt writesS c.body q = false := by rw [hwq, ← j2]; rfl
        have hm : classS cs k c = false := by
          rw [hm]
          cases hz : withinS writesS c.body with
          | false => rfl
          | true =>
            have := List.all_eq_true.1 hz q (List.mem_range.2 hlt)
            rw [hf] at this; cases this
        repeat' first
          | refine Z1 ?_ | refine Z2 ?_ | refine Zw ?_ | refine Zx ?_ | refine Zz (Zc (hwt) ⟨rfl, rfl⟩) ?_ | refine Zz (Ze ⟨rfl, rfl⟩) ?_ | refine Zo ?_ | refine ok_seq ?_ | refine ok_draw X_mixed (by decide +kernel) ?_ | refine Zp ?_
          | refine ok_block ?_ | refine ok_skip ?_ | refine ok_ret ?_ | refine x_normal_then ?_ | refine x_ret_then ?_ | refine x_ret_block ?_ | refine Zt ?_
        exact ret_vb hm.symm
      | false =>
        rw [hq, Bool.false_or] at j2
        repeat' first
          | refine Z1 ?_ | refine Z2 ?_ | refine Z5 ?_ | refine Zf ?_ | refine Zw ?_ | refine Zx ?_ | refine Zz (Zc (hwt) ⟨rfl, rfl⟩) ?_ | refine Zz (Ze ⟨rfl, rfl⟩) ?_ | refine Zo ?_ | refine ok_seq ?_ | refine ok_reg ?_
          | refine ok_draw X_mixed (by decide +kernel) ?_ | refine Zp ?_ | refine Zq ?_ | refine ok_block ?_ | refine ok_skip ?_ | refine x_normal_then ?_ | refine x_normal_block ?_
        exact ⟨x + 1, ⟨hlt2, j2⟩, by (try simp only); omega, low_mk (Nat.le_of_ble_eq_true rfl) ⟨⟨rfl, rfl⟩, ⟨rfl, rfl⟩, ⟨rfl, rfl⟩, ⟨rfl, rfl⟩, ⟨rfl, rfl⟩, ⟨rfl, rfl⟩, ⟨rfl, rfl⟩, ⟨rfl, rfl⟩, ⟨rfl, rfl⟩, trivial⟩ ⟨⟨rfl, rfl⟩, ⟨rfl, rfl⟩, ⟨rfl, rfl⟩, trivial⟩⟩
    have ee : decide ((x : Int) < E) = false := decide_eq_false hxe
    rw [show E.toNat - x = 0 by omega, List.take_zero] at j2
    have hg := nxt (by rw [hwq, ← j2]; rfl)
    repeat' first
      | refine Z1 ?_ | refine Z2 ?_ | refine Z5 ?_ | refine Zf ?_ | refine Zo ?_ | refine ok_seq ?_ | refine ok_reg ?_ | refine Zq ?_ | refine ok_exit ?_ | refine x_normal_then ?_ | refine x_exit_here ?_ | refine Zv ?_
      | refine x_normal_block ?_
    exact ⟨q + 1, ⟨hlt, hg⟩, by (try simp only); omega, low_mk (Nat.le_of_ble_eq_true rfl) ⟨⟨rfl, rfl⟩, ⟨rfl, rfl⟩, ⟨rfl, rfl⟩, ⟨rfl, rfl⟩, ⟨rfl, rfl⟩, ⟨rfl, rfl⟩, trivial⟩ ⟨⟨rfl, rfl⟩, ⟨rfl, rfl⟩, trivial⟩⟩
  have d4 : decide (s.kind = 4) = false := decide_eq_false k4
  have hg := nxt (by unfold withinAt; rw [hx]; simp only [k4, if_false])
  repeat' first
    | refine Z1 ?_ | refine Z2 ?_ | refine Z5 ?_ | refine Ze ?_ | refine Zf ?_ | refine Zo ?_ | refine ok_seq ?_ | refine ok_reg ?_ | refine Zp ?_ | refine Zq ?_ | refine ok_block ?_ | refine ok_skip ?_ | refine x_normal_then ?_
    | refine x_normal_block ?_
  exact ⟨q + 1, ⟨hlt, hg⟩, by (try simp only); omega, low_mk (Nat.le_of_ble_eq_true rfl) ⟨⟨rfl, rfl⟩, ⟨rfl, rfl⟩, ⟨rfl, rfl⟩, ⟨rfl, rfl⟩, ⟨rfl, rfl⟩, ⟨rfl, rfl⟩, trivial⟩ ⟨⟨rfl, rfl⟩, ⟨rfl, rfl⟩, trivial⟩⟩
end Go.Pm
/- Plain law: the program's names are the specification's names. -/
set_option linter.unusedVariables false
set_option linter.unusedSimpArgs false
namespace Go.Pm
theorem kw_eq (s : ByteArray) : hasWord kwS s = inS kwSpec s := by
  have h1 : ∀ x ∈ kwBytes, x ∈ kwSpecBytes := by decide
  have h2 : ∀ x ∈ kwSpecBytes, x ∈ kwBytes := by decide
  rw [Bool.eq_iff_iff]
  simp only [hasWord, inS, List.any_eq_true, decide_eq_true_eq]
  constructor
  · rintro ⟨x, hx, rfl⟩
    obtain ⟨y, hy, rfl⟩ := List.mem_map.1 hx
    exact ⟨_, List.mem_map.2 ⟨y, h1 y hy, rfl⟩, rfl⟩
  · rintro ⟨x, hx, rfl⟩
    obtain ⟨y, hy, rfl⟩ := List.mem_map.1 hx
    exact ⟨_, List.mem_map.2 ⟨y, h2 y hy, rfl⟩, rfl⟩
theorem name_eq (s : ByteArray) : nameI s = nameS s := by
  have hsz := bs_length s
  unfold nameI nameS plainS freshS
  rw [kw_eq]
  rcases hb : bs s with _ | ⟨c, _ | ⟨d, r⟩⟩
  · rfl
  · simp only [hb, List.length_cons, List.length_nil] at hsz
    by_cases h36 : (c.toNat : Int) = 36
    · have hl : letterI c = false := by simp [letterI, h36]
      simp [h36, hl]
    · by_cases hbig : 40 < (s.size : Int)
      · simp [hbig]
      · simp only [hbig, h36, if_false, List.all_cons, List.all_nil, Bool.or_false, Bool.and_true]
        cases hl : letterI c <;> simp [tailI, hl]
  · simp only [hb, List.length_cons] at hsz
    by_cases hbig : 40 < (s.size : Int)
    · have h10 : 10 < (s.size : Int) := by omega
      simp [hbig, h10]
    · by_cases h36 : (c.toNat : Int) = 36
      · have hl : letterI c = false := by simp [letterI, h36]
        simp [hbig, h36, hl]
      · simp only [hbig, h36, if_false, List.all_cons]
        cases hl : letterI c <;> simp [tailI, hl, h36]
def opOK (x : Itm) : Prop := 1 ≤ x.op ∧ x.op ≤ 24
theorem item_eq (x : Itm) : itemI x = (itemS x && (!decide (x.op = 25)) && decide (1 ≤ x.op ∧ x.op ≤ 24)) := by
  unfold itemI itemS nmI
  rw [name_eq]
  have hns : x.name = ⟨#[]⟩ → nameS x.name = false := fun h => by rw [h]; rfl
  grind
end Go.Pm
/- Plain law: codes. -/
set_option linter.unusedVariables false
set_option linter.unusedSimpArgs false
namespace Go.Pm
def postG : Int → List Itm → Int → Bool
  | h, [], t => decide (h = t)
  | h, x :: l, t => if h < arityI x.op then false else postG (h + (1 - arityI x.op)) l t
theorem postG_one (l : List Itm) : ∀ h, postI h l = postG h l 1 := by
  induction l with
  | nil => intro h; rfl
  | cons x l ih => intro h; simp only [postI, postG, ih]
theorem postG_snoc (x : Itm) (t : Int) : ∀ (l : List Itm) (h : Int), postG h (l ++ [x]) t = (postG h l (t + arityI x.op - 1) && decide (1 ≤ t))
  | [], h => by
    simp only [List.nil_append, postG]
    by_cases h1 : h < arityI x.op
    · rw [if_pos h1]
      by_cases h2 : h = t + arityI x.op - 1
      · simp only [h2, decide_true, Bool.true_and]
        symm; rw [decide_eq_false_iff_not]; omega
      · simp [h2]
    · rw [if_neg h1, Bool.eq_iff_iff]
      simp only [decide_eq_true_eq, Bool.and_eq_true]
      constructor
      · intro h2; omega
      · intro h2; omega
  | y :: l, h => by
    simp only [List.cons_append, postG]
    split
    · rfl
    · exact postG_snoc x t l _
theorem postG_pos : ∀ (l : List Itm) (h t : Int), l ≠ [] → postG h l t = true → 1 ≤ t
  | [], h, t, hl, _ => absurd rfl hl
  | [x], h, t, _, hp => by
    simp only [postG] at hp
    split at hp
    · cases hp
    · simp only [decide_eq_true_eq] at hp; omega
  | x :: y :: l, h, t, _, hp => by
    simp only [postG] at hp
    split at hp
    · cases hp
    · exact postG_pos (y :: l) _ t (by simp) (by simpa only [postG] using hp)
theorem arity_eq {op : Int} (h : 1 ≤ op ∧ op ≤ 25) : sarityI op = arityI op := by unfold sarityI arityI; grind
theorem begin_post (l : List Itm) (hall : ∀ x ∈ l, 1 ≤ x.op ∧ x.op ≤ 25) : ∀ (n : Nat) (need : Int), n ≤ l.length → 1 ≤ need → (beginS l n need = 0 ↔ postG 0 (l.take n) need = true)
  | 0, need, _, hn => by
    simp only [beginS, List.take_zero, postG, decide_eq_true_eq]
    rw [if_neg (by omega)]
    omega
  | n + 1, need, hl, hn => by
    have hlt : n < l.length := by omega
    have hx : l[n]? = some l[n] := by simp [hlt]
    have hop := hall l[n] (List.getElem_mem hlt)
    have har := arityI_range l[n].op
    simp only [beginS]
    rw [if_neg (by omega), hx]
    simp only
    rw [arity_eq hop, if_neg (by omega), List.take_add_one, hx]
    simp only [Option.toList_some]
    rw [postG_snoc]
    simp only [Bool.and_eq_true, decide_eq_true_eq, hn, and_true]
    by_cases h1 : 1 ≤ need + arityI l[n].op - 1
    · exact begin_post l hall n _ (by omega) h1
    · have h0 : need + arityI l[n].op - 1 = 0 := by omega
      rw [h0]
      cases n with
      | zero => simp [beginS, postG]
      | succ m =>
        simp only [beginS]
        rw [if_pos (by omega)]
        constructor
        · intro h; omega
        · intro h
          have := postG_pos _ _ _ (by intro he; have := congrArg List.length he; simp only [List.length_take, List.length_nil] at this; omega) h
          omega
theorem begin_ops (l : List Itm) : ∀ (n : Nat) (need : Int), beginS l n need = 0 → ∀ j x, j < n → l[j]? = some x → 0 ≤ sarityI x.op
  | 0, need, _, j, x, hj, _ => by omega
  | n + 1, need, h, j, x, hj, hx => by
    simp only [beginS] at h
    split at h
    · omega
    · split at h
      · omega
      · rename_i y hy
        split at h
        · omega
        · rename_i hs
          by_cases hjn : j = n
          · subst hjn; rw [hy] at hx; cases hx; omega
          · exact begin_ops l n _ h j x (by omega) hx
end Go.Pm
/- Plain law of machines: names, variables and codes. -/
set_option linter.unusedVariables false
set_option linter.unusedSimpArgs false
namespace Go.Pm
theorem placeS_not {s : ByteArray} : ∀ {l : List ByteArray} {j : Nat}, s ∉ l → placeS s j l = -1
  | [], _, _ => rfl
  | x :: l, j, h => by
    simp only [List.mem_cons, not_or] at h
    simp only [placeS]
    rw [if_neg (fun e => h.1 e.symm), placeS_not h.2]
theorem placeS_in {s : ByteArray} : ∀ {l : List ByteArray} (m : List ByteArray) {j : Nat}, s ∈ l → (j : Int) ≤ placeS s j (l ++ m) ∧ placeS s j (l ++ m) < ((j + l.length : Nat) : Int)
  | x :: l, m, j, h => by
    simp only [List.cons_append, placeS, List.length_cons]
    by_cases hx : x = s
    · rw [if_pos hx]; omega
    · rw [if_neg hx]
      have := placeS_in (l := l) m (j := j + 1) (by simpa [Ne.symm hx] using h)
      omega
theorem placeS_app {s : ByteArray} : ∀ {l : List ByteArray} (m : List ByteArray) {j : Nat}, s ∉ l → placeS s j (l ++ m) = placeS s (j + l.length) m
  | [], m, j, _ => rfl
  | x :: l, m, j, h => by
    simp only [List.mem_cons, not_or] at h
    simp only [List.cons_append, placeS, List.length_cons]
    rw [if_neg (fun e => h.1 e.symm), placeS_app m h.2]
    congr 1; omega
theorem placeS_ge {s : ByteArray} {l : List ByteArray} {j : Nat} (h : s ∈ l) : (j : Int) ≤ placeS s j l := by
  have := (placeS_in (s := s) [] (j := j) h).1
  rwa [List.append_nil] at this
theorem varsGo_iff (p : List ByteArray) : ∀ (l q : List ByteArray), q ++ l = p → (varsGo p q.length l = true ↔ (∀ x ∈ l, nameS x = true ∧ x ∉ q) ∧ l.Nodup)
  | [], q, _ => by simp [varsGo]
  | x :: l, q, e => by
    have ih := varsGo_iff p l (q ++ [x]) (by simpa using e)
    rw [List.length_append, List.length_singleton] at ih
    have hp : placeS x 0 p < (q.length : Int) ↔ x ∈ q := by
      constructor
      · intro h
        by_cases hx : x ∈ q
        · exact hx
        · rw [← e, placeS_app _ hx] at h
          simp only [placeS, if_true] at h
          omega
      · intro h
        have := (placeS_in (s := x) (x :: l) (j := 0) h).2
        rw [e] at this
        omega
    simp only [varsGo]
    cases hn : nameS x with
    | false => simp [hn]
    | true =>
      by_cases hq : x ∈ q
      · rw [if_pos (.inr (hp.2 hq))]
        simp [hq]
      · rw [if_neg (fun h => h.elim (by simp) (fun h => hq (hp.1 h))), ih]
        simp only [List.mem_cons, List.nodup_cons, List.mem_append, List.not_mem_nil, or_false, not_or]
        constructor
        · rintro ⟨h1, h2⟩
          refine ⟨fun y hy => ?_, fun hx => (h1 x hx).2.2 rfl, h2⟩
          rcases hy with rfl | hy
          · exact ⟨hn, hq⟩
          · exact ⟨(h1 y hy).1, (h1 y hy).2.1⟩
        · rintro ⟨h1, h2, h3⟩
          exact ⟨fun y hy => ⟨(h1 y (.inr hy)).1, (h1 y (.inr hy)).2, fun e => h2 (e ▸ hy)⟩, h3⟩
theorem varsS_iff (l : List ByteArray) : varsGo l 0 l = true ↔ (∀ x ∈ l, nameS x = true) ∧ l.Nodup := by
  have := varsGo_iff l l [] rfl
  simpa using this
def tyOK (x : Slt) : Prop := x.type = 1 ∨ x.type = 2
theorem typS_iff (x : Slt) : typS x = true ↔ tyOK x := by simp only [typS, Bool.and_eq_true, decide_eq_true_eq, tyOK]; omega
theorem addOK_iff (F : Vm) (s : ByteArray) : addOK F s = true ↔ nameS s = true ∧ sfind F s = none := by
  unfold addOK
  rw [name_eq]
  cases sfind F s <;> simp
theorem slotGo_none (v : Int) : ∀ (l : List Slt) (F : Vm), slotGo v F l = none ↔ ¬ ((∀ x ∈ l, nameS x.name = true ∧ tyOK x ∧ sfind F x.name = none) ∧ (l.map sNm).Nodup)
  | [], F => by simp [slotGo]
  | x :: l, F => by
    simp only [slotGo, addOK_iff]
    by_cases h : (nameS x.name = true ∧ sfind F x.name = none) ∧ (x.type = 1 ∨ x.type = 2)
    · rw [if_pos h, slotGo_none v l]
      obtain ⟨⟨h1, h2⟩, h3⟩ := h
      refine not_congr ?_
      simp only [List.mem_cons, List.map_cons, List.nodup_cons, List.mem_map, not_exists, not_and]
      constructor
      · rintro ⟨g1, g2⟩
        refine ⟨fun y hy => ?_, fun y hy e => ?_, g2⟩
        · rcases hy with rfl | hy
          · exact ⟨h1, h3, h2⟩
          · obtain ⟨a, b, c⟩ := g1 y hy
            rw [sfind_sput] at c
            refine ⟨a, b, ?_⟩
            split at c
            · cases c
            · exact c
        · have := (g1 y hy).2.2
          rw [sfind_sput, if_pos (show y.name = x.name from e)] at this; cases this
      · rintro ⟨g1, g2, g3⟩
        refine ⟨fun y hy => ?_, g3⟩
        obtain ⟨a, b, c⟩ := g1 y (.inr hy)
        refine ⟨a, b, ?_⟩
        rw [sfind_sput, if_neg (show ¬ y.name = x.name from fun e => g2 y hy e)]
        exact c
    · rw [if_neg h]
      simp only [true_iff]
      intro hc
      obtain ⟨a, b, c⟩ := hc.1 x List.mem_cons_self
      exact h ⟨⟨a, c⟩, b⟩
open Classical in
theorem slotGo_some (v : Int) : ∀ (l : List Slt) (F F' : Vm), slotGo v F l = some F' → ∀ s, sfind F' s = if s ∈ l.map sNm then some v else sfind F s
  | [], F, F', h, s => by simp only [slotGo, Option.some.injEq] at h; subst h; simp
  | x :: l, F, F', h, s => by
    simp only [slotGo] at h
    split at h
    · rw [slotGo_some v l _ F' h s, sfind_sput]
      by_cases h1 : s ∈ l.map sNm
      · simp [h1]
      · by_cases h2 : s = x.name
        · simp [h1, h2, sNm]
        · simp [h1, h2, sNm]
    · cases h
theorem locGo_none : ∀ (l : List ByteArray) (F : Vm), locGo F l = none ↔ ¬ ((∀ x ∈ l, nameS x = true ∧ sfind F x = none) ∧ l.Nodup)
  | [], F => by simp [locGo]
  | x :: l, F => by
    simp only [locGo, addOK_iff]
    by_cases h : nameS x = true ∧ sfind F x = none
    · rw [if_pos h, locGo_none l]
      obtain ⟨h1, h2⟩ := h
      refine not_congr ?_
      simp only [List.mem_cons, List.nodup_cons]
      constructor
      · rintro ⟨g1, g2⟩
        refine ⟨fun y hy => ?_, fun hx => ?_, g2⟩
        · rcases hy with rfl | hy
          · exact ⟨h1, h2⟩
          · obtain ⟨a, c⟩ := g1 y hy
            rw [sfind_sput] at c
            refine ⟨a, ?_⟩
            split at c
            · cases c
            · exact c
        · have := (g1 x hx).2
          rw [sfind_sput, if_pos rfl] at this; cases this
      · rintro ⟨g1, g2, g3⟩
        refine ⟨fun y hy => ?_, g3⟩
        obtain ⟨a, c⟩ := g1 y (.inr hy)
        exact ⟨a, by rw [sfind_sput, if_neg (show ¬ y = x from fun e => g2 (e ▸ hy))]; exact c⟩
    · rw [if_neg h]
      simp only [true_iff]
      intro hc
      exact h (hc.1 x List.mem_cons_self)
open Classical in
theorem locGo_some : ∀ (l : List ByteArray) (F F' : Vm), locGo F l = some F' → ∀ s, sfind F' s = if s ∈ l then some 1 else sfind F s
  | [], F, F', h, s => by simp only [locGo, Option.some.injEq] at h; subst h; simp
  | x :: l, F, F', h, s => by
    simp only [locGo] at h
    split at h
    · rw [locGo_some l _ F' h s, sfind_sput]
      by_cases h1 : s ∈ l
      · simp [h1]
      · by_cases h2 : s = x
        · simp [h1, h2]
        · simp [h1, h2]
    · cases h
open Classical in
/-- The variables of a class, as a map. -/
def mapOf (c : Cls) (F : Vm) : Prop := ∀ s, sfind F s = if s ∈ c.outs.map sNm ∨ s ∈ c.locs then some 1 else if s ∈ c.ins.map sNm then some 0 else none
open Classical in
theorem vars_go (c : Cls) : (((∀ x ∈ nmsC c, nameS x = true) ∧ (nmsC c).Nodup ∧ ∀ x ∈ c.ins ++ c.outs, tyOK x) → ∃ F, (slotsGo 0 [c.ins, c.outs] []).bind (fun F => locGo F c.locs) = some F ∧ mapOf c F) ∧
    (¬ ((∀ x ∈ nmsC c, nameS x = true) ∧ (nmsC c).Nodup ∧ ∀ x ∈ c.ins ++ c.outs, tyOK x) → (slotsGo 0 [c.ins, c.outs] []).bind (fun F => locGo F c.locs) = none) := by
  have e0 : slotsGo 0 [c.ins, c.outs] [] = (slotGo 0 [] c.ins).bind fun F => slotGo 1 F c.outs := by
    simp only [slotsGo]
    cases slotGo ((0 : Nat) : Int) [] c.ins with
    | none => rfl
    | some F =>
      simp only [Option.bind_some]
      cases slotGo ((0 + 1 : Nat) : Int) F c.outs <;> rfl
  rw [e0]
  have nd : (nmsC c).Nodup ↔ (c.ins.map sNm).Nodup ∧ (c.outs.map sNm).Nodup ∧ (∀ x ∈ c.ins.map sNm, x ∉ c.outs.map sNm) ∧ c.locs.Nodup ∧ ∀ x, (x ∈ c.ins.map sNm ∨ x ∈ c.outs.map sNm) → x ∉ c.locs := by
    unfold nmsC
    rw [List.nodup_append, List.nodup_append]
    constructor
    · rintro ⟨⟨a, b, d⟩, e, f⟩
      exact ⟨a, b, fun x hx hy => d x hx x hy rfl, e, fun x hx hy => f x (by simpa using hx) x hy rfl⟩
    · rintro ⟨a, b, d, e, f⟩
      exact ⟨⟨a, b, fun x hx y hy h => d x hx (h ▸ hy)⟩, e, fun x hx y hy h => f x (by simpa using hx) (h ▸ hy)⟩
  have nm : (∀ x ∈ nmsC c, nameS x = true) ↔ (∀ x ∈ c.ins, nameS x.name = true) ∧ (∀ x ∈ c.outs, nameS x.name = true) ∧ ∀ x ∈ c.locs, nameS x = true := by
    unfold nmsC
    simp only [List.mem_append, List.mem_map]
    constructor
    · intro h
      exact ⟨fun x hx => h _ (.inl (.inl ⟨x, hx, rfl⟩)), fun x hx => h _ (.inl (.inr ⟨x, hx, rfl⟩)), fun x hx => h x (.inr hx)⟩
    · rintro ⟨a, b, d⟩ x ((⟨y, hy, rfl⟩ | ⟨y, hy, rfl⟩) | hx)
      · exact a y hy
      · exact b y hy
      · exact d x hx
  rw [nd, nm]
  cases h1 : slotGo 0 [] c.ins with
  | none =>
    have g1 := (slotGo_none 0 c.ins []).1 h1
    refine ⟨fun h => absurd ⟨fun x hx => ⟨h.1.1 x hx, h.2.2 x (by simp [hx]), rfl⟩, h.2.1.1⟩ g1, fun _ => rfl⟩
  | some F1 =>
    have g1 : (∀ x ∈ c.ins, nameS x.name = true ∧ tyOK x ∧ sfind ([] : Vm) x.name = none) ∧ (c.ins.map sNm).Nodup := by
      rcases Classical.em ((∀ x ∈ c.ins, nameS x.name = true ∧ tyOK x ∧ sfind ([] : Vm) x.name = none) ∧ (c.ins.map sNm).Nodup) with h | h
      · exact h
      · rw [(slotGo_none 0 c.ins []).2 h] at h1; cases h1
    have f1 := slotGo_some 0 c.ins [] F1 h1
    simp only [Option.bind_some]
    cases h2 : slotGo 1 F1 c.outs with
    | none =>
      have g2 := (slotGo_none 1 c.outs F1).1 h2
      refine ⟨fun h => absurd ⟨fun x hx => ⟨h.1.2.1 x hx, h.2.2 x (by simp [hx]), ?_⟩, h.2.1.2.1⟩ g2, fun _ => rfl⟩
      rw [f1, if_neg (show ¬ x.name ∈ c.ins.map sNm from fun hy => h.2.1.2.2.1 _ hy (List.mem_map.2 ⟨x, hx, rfl⟩))]; rfl
    | some F2 =>
      have g2 : (∀ x ∈ c.outs, nameS x.name = true ∧ tyOK x ∧ sfind F1 x.name = none) ∧ (c.outs.map sNm).Nodup := by
        rcases Classical.em ((∀ x ∈ c.outs, nameS x.name = true ∧ tyOK x ∧ sfind F1 x.name = none) ∧ (c.outs.map sNm).Nodup) with h | h
        · exact h
        · rw [(slotGo_none 1 c.outs F1).2 h] at h2; cases h2
      have f2 := slotGo_some 1 c.outs F1 F2 h2
      simp only [Option.bind_some]
      cases h3 : locGo F2 c.locs with
      | none =>
        have g3 := (locGo_none c.locs F2).1 h3
        refine ⟨fun h => absurd ⟨fun x hx => ⟨h.1.2.2 x hx, ?_⟩, h.2.1.2.2.2.1⟩ g3, fun _ => rfl⟩
        rw [f2, if_neg (fun hy => h.2.1.2.2.2.2 x (.inr hy) hx), f1, if_neg (fun hy => h.2.1.2.2.2.2 x (.inl hy) hx)]; rfl
      | some F3 =>
        have g3 : (∀ x ∈ c.locs, nameS x = true ∧ sfind F2 x = none) ∧ c.locs.Nodup := by
          rcases Classical.em ((∀ x ∈ c.locs, nameS x = true ∧ sfind F2 x = none) ∧ c.locs.Nodup) with h | h
          · exact h
          · rw [(locGo_none c.locs F2).2 h] at h3; cases h3
        have f3 := locGo_some c.locs F2 F3 h3
        refine ⟨fun _ => ⟨F3, rfl, fun s => ?_⟩, fun h => absurd ⟨⟨fun x hx => (g1.1 x hx).1, fun x hx => (g2.1 x hx).1, fun x hx => (g3.1 x hx).1⟩, ⟨g1.2, g2.2, ?_, g3.2, ?_⟩, ?_⟩ h⟩
        · rw [f3, f2, f1]
          by_cases a : s ∈ c.locs
          · simp [a]
          · by_cases b : s ∈ c.outs.map sNm
            · simp only [a, b, if_true, if_false, true_or]
            · simp only [a, b, if_false, or_self]; rfl
        · intro x hx hy
          obtain ⟨y, hyo, rfl⟩ := List.mem_map.1 hy
          have := (g2.1 y hyo).2.2
          rw [f1, if_pos (show y.name ∈ c.ins.map sNm from hx)] at this; cases this
        · intro x hx hl
          have := (g3.1 x hl).2
          rw [f2] at this
          rcases hx with hx | hx
          · split at this
            · cases this
            · rw [f1, if_pos hx] at this; cases this
          · rw [if_pos hx] at this; cases this
        · intro x hx
          rcases List.mem_append.1 hx with h | h
          · exact (g1.1 x h).2.1
          · exact (g2.1 x h).2.1
end Go.Pm
/- Plain law of machines: codes and single statements. -/
set_option linter.unusedVariables false
set_option linter.unusedSimpArgs false
namespace Go.Pm
theorem inS_iff (l : List ByteArray) (s : ByteArray) : inS l s = true ↔ s ∈ l := by
  simp [inS]
theorem nms_mem (c : Cls) (s : ByteArray) : s ∈ nmsC c ↔ s ∈ c.ins.map sNm ∨ s ∈ c.outs.map sNm ∨ s ∈ c.locs := by
  unfold nmsC; simp only [List.mem_append, or_assoc]
theorem known_eq {c : Cls} {F : Vm} (hF : mapOf c F) (s : ByteArray) : (sfind F s).isSome = inS (nmsC c) s := by
  rw [Bool.eq_iff_iff, inS_iff, nms_mem, hF s]
  by_cases h1 : s ∈ c.outs.map sNm ∨ s ∈ c.locs
  · rw [if_pos h1]
    simp only [Option.isSome_some, true_iff]
    exact .inr h1
  · rw [if_neg h1]
    by_cases h2 : s ∈ c.ins.map sNm
    · rw [if_pos h2]; simp [h2]
    · rw [if_neg h2]
      simp only [Option.isSome_none, Bool.false_eq_true, false_iff]
      exact fun h => h.elim h2 h1
theorem set_iff {c : Cls} {F : Vm} (hF : mapOf c F) (hn : (nmsC c).Nodup) (s : ByteArray) : setS c s = true ↔ sfind F s = some 1 := by
  rw [hF s]
  unfold setS
  rw [decide_eq_true_eq]
  have hl : (c.ins.map sNm).length = c.ins.length := by simp
  have e : nmsC c = c.ins.map sNm ++ (c.outs.map sNm ++ c.locs) := by simp [nmsC]
  by_cases h2 : s ∈ c.ins.map sNm
  · have hno : ¬ (s ∈ c.outs.map sNm ∨ s ∈ c.locs) := by
      rw [e, List.nodup_append] at hn
      exact fun h => hn.2.2 s h2 s (by simpa using h) rfl
    rw [if_neg hno, if_pos h2]
    have := (placeS_in (s := s) (c.outs.map sNm ++ c.locs) (j := 0) h2).2
    rw [← e] at this
    constructor
    · intro h; omega
    · intro h; simp at h
  · by_cases h1 : s ∈ c.outs.map sNm ∨ s ∈ c.locs
    · rw [if_pos h1]
      simp only [iff_true]
      rw [e, placeS_app _ h2]
      have := placeS_ge (s := s) (l := c.outs.map sNm ++ c.locs) (j := 0 + (c.ins.map sNm).length) (by simpa using h1)
      omega
    · rw [if_neg h1, if_neg h2]
      rw [placeS_not (by rw [nms_mem]; exact fun h => h.elim h2 h1)]
      simp only [reduceCtorEq, iff_false]
      omega
theorem given_iff {c : Cls} {F : Vm} (hF : mapOf c F) (hn : (nmsC c).Nodup) (W : Vm) (s : ByteArray) : givenI F W s = true ↔ setS c s = true ∧ wget W s = 0 := by
  rw [set_iff hF hn]
  unfold givenI
  cases sfind F s with
  | none => simp
  | some v => simp
theorem ci_eq {c : Cls} {F : Vm} (hF : mapOf c F) (x : Itm) : ciI F c.mems.length x = (itemS x && itmS c x && decide (1 ≤ x.op ∧ x.op ≤ 25)) := by
  unfold ciI itmS
  rw [item_eq, known_eq hF]
  by_cases h25 : x.op = 25
  · have hi : itemS x = decide (x.name = ⟨#[]⟩) := by
      unfold itemS
      simp only [h25]
      by_cases hn : x.name = ⟨#[]⟩ <;> simp [hn]
    rw [hi]
    simp only [h25]
    by_cases hn : x.name = ⟨#[]⟩
    · by_cases hv : x.val < 0 ∨ (c.mems.length : Int) ≤ x.val
      · have : x.val < 0 ∨ (c.mems.length : Int) ≤ x.val ∨ x.name ≠ ⟨#[]⟩ := by rcases hv with h | h; exact .inl h; exact .inr (.inl h)
        simp [hv, this, hn]
      · have : ¬ (x.val < 0 ∨ (c.mems.length : Int) ≤ x.val ∨ x.name ≠ ⟨#[]⟩) := fun h => by rcases h with h | h | h; exact hv (.inl h); exact hv (.inr h); exact h hn
        simp [hv, this, hn]
    · have : x.val < 0 ∨ (c.mems.length : Int) ≤ x.val ∨ x.name ≠ ⟨#[]⟩ := .inr (.inr hn)
      simp [this, hn]
  · by_cases h20 : 20 < x.op
    · simp [h25, h20]
    · by_cases h1 : x.op < 1
      · have : ¬ (1 ≤ x.op) := by omega
        simp [h25, h20, h1, this]
      · have g1 : 1 ≤ x.op := by omega
        have g2 : x.op ≤ 24 := by omega
        have g3 : x.op ≤ 25 := by omega
        cases hi : itemS x with
        | false => simp [h25, h20, h1, g1, g2, g3]
        | true =>
          by_cases h3 : x.op = 3
          · cases hk : inS (nmsC c) x.name <;> simp [h3, hk]
          · simp [h25, h20, h1, g1, g2, g3, h3]
theorem codeM_eq {c : Cls} {F : Vm} (hF : mapOf c F) (l : List Itm) : codeI F c.mems.length l = mcodeS c l := by
  unfold codeI mcodeS codeS
  by_cases h1 : (l.length : Int) < 1 ∨ 6000 < (l.length : Int)
  · have h2 : (l.length : Int) < 1 ∨ 6000 < (l.length : Int) ∨ beginS l l.length 1 ≠ 0 := by omega
    simp [h1, h2]
  · by_cases hb : beginS l l.length 1 = 0
    · have h2 : ¬ ((l.length : Int) < 1 ∨ 6000 < (l.length : Int) ∨ beginS l l.length 1 ≠ 0) := by omega
      rw [if_neg h1, if_neg h2, Bool.eq_iff_iff]
      simp only [Bool.and_eq_true, List.all_eq_true]
      have hops : ∀ x ∈ l, 1 ≤ x.op ∧ x.op ≤ 25 := by
        intro x hx
        obtain ⟨j, hj⟩ := List.getElem?_of_mem hx
        have := begin_ops l l.length 1 hb j x (drop_some hj).2 hj
        unfold sarityI at this
        grind
      constructor
      · rintro ⟨ha, hp⟩
        refine ⟨fun x hx => ?_, fun x hx => ?_⟩
        · have := ha x hx; rw [ci_eq hF] at this; simp only [Bool.and_eq_true] at this; exact this.1.1
        · have := ha x hx; rw [ci_eq hF] at this; simp only [Bool.and_eq_true] at this; exact this.1.2
      · rintro ⟨ha, hq⟩
        refine ⟨fun x hx => ?_, ?_⟩
        · rw [ci_eq hF]; simp only [Bool.and_eq_true, decide_eq_true_eq]; exact ⟨⟨ha x hx, hq x hx⟩, hops x hx⟩
        · rw [postG_one]
          have := (begin_post l hops l.length 1 (Nat.le_refl _) (by omega)).1 hb
          rwa [List.take_length] at this
    · have h2 : (l.length : Int) < 1 ∨ 6000 < (l.length : Int) ∨ beginS l l.length 1 ≠ 0 := .inr (.inr hb)
      rw [if_neg h1, if_pos h2, Bool.false_and, Bool.eq_false_iff]
      intro hc
      simp only [Bool.and_eq_true, List.all_eq_true] at hc
      obtain ⟨ha, hp⟩ := hc
      have hr : ∀ x ∈ l, 1 ≤ x.op ∧ x.op ≤ 25 := by
        intro x hx
        have := ha x hx
        rw [ci_eq hF] at this
        simp only [Bool.and_eq_true, decide_eq_true_eq] at this
        exact this.2
      rw [postG_one] at hp
      have := (begin_post l hr l.length 1 (Nat.le_refl _) (by omega)).2 (by rw [List.take_length]; exact hp)
      exact hb this
theorem outsS_iff (c : Cls) (p : List ByteArray) : ∀ (l q : List ByteArray), q ++ l = p → (outsS c p q.length l = true ↔ (∀ x ∈ l, setS c x = true ∧ x ∉ q) ∧ l.Nodup)
  | [], q, _ => by simp [outsS]
  | x :: l, q, e => by
    have ih := outsS_iff c p l (q ++ [x]) (by simpa using e)
    rw [List.length_append, List.length_singleton] at ih
    have hp : placeS x 0 p < (q.length : Int) ↔ x ∈ q := by
      constructor
      · intro h
        by_cases hx : x ∈ q
        · exact hx
        · rw [← e, placeS_app _ hx] at h
          simp only [placeS, if_true] at h
          omega
      · intro h
        have := (placeS_in (s := x) (x :: l) (j := 0) h).2
        rw [e] at this
        omega
    simp only [outsS]
    cases hn : setS c x with
    | false => simp [hn]
    | true =>
      by_cases hq : x ∈ q
      · rw [if_pos (.inr (hp.2 hq))]
        simp [hq]
      · rw [if_neg (fun h => h.elim (by simp) (fun h => hq (hp.1 h))), ih]
        simp only [List.mem_cons, List.nodup_cons, List.mem_append, List.not_mem_nil, or_false, not_or]
        constructor
        · rintro ⟨h1, h2⟩
          refine ⟨fun y hy => ?_, fun hx => (h1 x hx).2.2 rfl, h2⟩
          rcases hy with rfl | hy
          · exact ⟨hn, hq⟩
          · exact ⟨(h1 y hy).1, (h1 y hy).2.1⟩
        · rintro ⟨h1, h2, h3⟩
          exact ⟨fun y hy => ⟨(h1 y (.inr hy)).1, (h1 y (.inr hy)).2, fun e => h2 (e ▸ hy)⟩, h3⟩
theorem outsGo_iff (F W : Vm) : ∀ (l : List ByteArray) (E : List (ByteArray × Bool)), outsGo F W E l = true ↔ (∀ x ∈ l, givenI F W x = true ∧ (sfind E x).getD false = false) ∧ l.Nodup
  | [], E => by simp [outsGo]
  | x :: l, E => by
    simp only [outsGo]
    by_cases h : givenI F W x = true ∧ (sfind E x).getD false = false
    · rw [if_pos h, outsGo_iff F W l]
      simp only [List.mem_cons, List.nodup_cons]
      constructor
      · rintro ⟨g1, g2⟩
        refine ⟨fun y hy => ?_, fun hx => ?_, g2⟩
        · rcases hy with rfl | hy
          · exact h
          · obtain ⟨a, b⟩ := g1 y hy
            rw [sfind_sput] at b
            refine ⟨a, ?_⟩
            split at b
            · cases b
            · exact b
        · have := (g1 x hx).2
          rw [sfind_sput, if_pos rfl] at this; cases this
      · rintro ⟨g1, g2, g3⟩
        refine ⟨fun y hy => ?_, g3⟩
        obtain ⟨a, b⟩ := g1 y (.inr hy)
        exact ⟨a, by rw [sfind_sput, if_neg (show ¬ y = x from fun e => g2 (e ▸ hy))]; exact b⟩
    · rw [if_neg h]
      simp only [Bool.false_eq_true, false_iff]
      intro hc
      exact h (hc.1 x List.mem_cons_self)
theorem outs_eq {c : Cls} {F : Vm} (hF : mapOf c F) (hn : (nmsC c).Nodup) (W : Vm) (l : List ByteArray) : outsGo F W [] l = true ↔ outsS c l 0 l = true ∧ ∀ x ∈ l, wget W x = 0 := by
  have h1 := outsS_iff c l l [] rfl
  rw [List.length_nil] at h1
  rw [h1, outsGo_iff]
  simp only [given_iff hF hn, List.not_mem_nil, not_false_eq_true, and_true]
  constructor
  · rintro ⟨a, b⟩; exact ⟨⟨fun x hx => (a x hx).1.1, b⟩, fun x hx => (a x hx).1.2⟩
  · rintro ⟨⟨a, b⟩, d⟩; exact ⟨fun x hx => ⟨⟨a x hx, d x hx⟩, rfl⟩, b⟩
end Go.Pm
