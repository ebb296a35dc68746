/- Machines of the specification: one statement. -/
import Derived.Test.YtaabemmnjhgbgaaGreatDoorC2
import Derived.Test.YtaabemmnjhgbgaaGreatDoorB7
set_option linter.unusedVariables false
set_option linter.unusedSimpArgs false
namespace Go.Pm
attribute [local irreducible] AR Ok inBlock andThen endQ aoper
set_option maxHeartbeats 2000000
open Go.Proofs
def c0 (s : Sm) : Bool := decide (s.kind = 1) || decide (s.kind = 4)
def c1 (s : Sm) : Bool := !(c0 s) && decide (s.name ≠ ⟨#[]⟩)
def c2 (s : Sm) : Bool := decide (s.kind ≠ 2) && decide (s.kind ≠ 3) && decide (s.pos ≠ 0)
def c3 (s : Sm) : Bool := decide (s.kind ≠ 3) && (decide ((s.outs.length : Int) ≠ 0) || decide ((s.args.length : Int) ≠ 0))
def c4 (s : Sm) : Bool := decide (s.kind ≠ 1) && decide (s.kind ≠ 2) && decide ((s.code.length : Int) ≠ 0)
def outsS (c : Cls) (outs : List ByteArray) : Nat → List ByteArray → Bool
  | _, [] => true
  | i, x :: l => if setS c x = false ∨ placeS x 0 outs < (i : Int) then false else outsS c outs (i + 1) l
def stmS (cs : List Cls) (c : Cls) (s : Sm) : Bool :=
  if c1 s = true then false else if c2 s = true then false else if c3 s = true then false else if c4 s = true then false
  else if s.kind = 1 then setS c s.name && mcodeS c s.code
  else if s.kind = 2 then decide (0 ≤ s.pos) && decide (s.pos < (c.mems.length : Int)) && mcodeS c s.code
  else if s.kind = 4 then inS (nmsC c) s.name
  else if s.kind = 5 ∨ s.kind = 6 then true
  else if s.kind = 3 then
    (if s.pos < 0 ∨ (c.insts.length : Int) ≤ s.pos then false else
      match (c.insts[s.pos.toNat]?).bind (fun g => cs[g.toNat]?) with
      | none => false
      | some d => if s.outs.length = d.outs.length ∧ s.args.length = d.ins.length then outsS c s.outs 0 s.outs && s.args.all (mcodeS c) else false)
  else false
theorem bq {a b : Bool} (h : b = a) : Frz none (vb a) (vb b) := by rw [h]; exact .refl _
theorem sstm_ok (cs : List Cls) (k : Nat) (c : Cls) (s : Sm) (hc : cs.length ≤ 1048576) (hw : wCls c ≤ 1048576) (hs : wSm s ≤ 1048576) (hk : k < cs.length) (hin : ∀ g ∈ c.insts, 0 ≤ g ∧ g < (k : Int)) : PFun X 40 [.agg [.d (.im (cs.map eCls))], .agg ((eCls c).map .d), .agg ((eSm s).map .d)] (vb (stmS cs c s)) := by
  have hnl := nms_le hw
  have hcl := cls_le hw
  have hsl : s.code.length ≤ 1048576 ∧ s.outs.length ≤ 1048576 ∧ s.args.length ≤ 1048576 := by simp only [wSm, wL] at hs; omega
  refine pfun_of Tryz.func40 rfl (by decide) Tryz.ntmps40 Tryz.results40 (by simp) rfl rfl ?_
  refine Zo ?_
  repeat' first
    | refine Z1 ?_ | refine Z2 ?_
  refine ok_cut (envL [(7, vb (c0 s)), (3, .ref 0 0), (4, .ref 1 0), (5, .ref 2 0)]) (stL [some (.var [.d (.im (cs.map eCls))]), some (.var ((eCls c).map .d)), some (.var ((eSm s).map .d))]) ?_ ?_
  ·
    repeat' first
      | refine Z1 ?_ | refine Z3 ?_ | refine Z5 ?_ | refine Z7 ?_ | refine Z9 ?_ | refine Zb (fun hc => ?_) (fun hc => ?_) | refine Zh ?_ | refine Zi ?_ | refine Zl ?_ | refine Zm ?_ | refine ok_reg ?_
    all_goals exact ⟨rfl, weak_mk rfl ⟨bq (by simp only [c0, *]; try rfl), .refl _, .refl _, .refl _, trivial⟩ ⟨⟨rfl, _, rfl, rfl, fun _ _ _ => .refl _⟩, ⟨rfl, _, rfl, rfl, fun _ _ _ => .refl _⟩, ⟨rfl, _, rfl, rfl, fun _ _ _ => .refl _⟩, trivial⟩⟩
  refine ok_seq ?_
  refine ok_cut (envL [(27, vb (c1 s)), (3, .ref 0 0), (4, .ref 1 0), (5, .ref 2 0)]) (stL [some (.var [.d (.im (cs.map eCls))]), some (.var ((eCls c).map .d)), some (.var ((eSm s).map .d))]) ?_ ?_
  ·
    repeat' first
      | refine Z1 ?_ | refine Z3 ?_ | refine Z5 ?_ | refine Z7 ?_ | refine Z8 ?_ | refine Za (fun hc => ?_) (fun hc => ?_) | refine Zh ?_ | refine Zi ?_ | refine Zl ?_ | refine Zm ?_ | refine ok_reg ?_
    all_goals exact ⟨rfl, weak_mk rfl ⟨bq (by simp only [c1, *]; try rfl), .refl _, .refl _, .refl _, trivial⟩ ⟨⟨rfl, _, rfl, rfl, fun _ _ _ => .refl _⟩, ⟨rfl, _, rfl, rfl, fun _ _ _ => .refl _⟩, ⟨rfl, _, rfl, rfl, fun _ _ _ => .refl _⟩, trivial⟩⟩
  have hm : stmS cs c s = stmS cs c s := rfl
  conv at hm => rhs; unfold stmS
  cases h1 : c1 s with
  | true =>
    rw [if_pos h1] at hm
    repeat' first
      | refine Z1 ?_ | refine Z2 ?_ | refine Zo ?_ | refine Zp ?_ | refine ok_ret ?_ | refine x_ret_then ?_ | refine Zt ?_
    exact ret_vb hm.symm
  | false =>
  rw [if_neg (by rw [h1]; simp)] at hm
  refine Zq ?_
  refine ok_skip ?_
  refine x_normal_then ?_
  refine ok_seq ?_
  refine ok_cut (envL [(40, vb (c2 s)), (3, .ref 0 0), (4, .ref 1 0), (5, .ref 2 0)]) (stL [some (.var [.d (.im (cs.map eCls))]), some (.var ((eCls c).map .d)), some (.var ((eSm s).map .d))]) ?_ ?_
  ·
    repeat' first
      | refine Z1 ?_ | refine Z3 ?_ | refine Z5 ?_ | refine Z7 ?_ | refine Z8 ?_ | refine Za (fun hc => ?_) (fun hc => ?_) | refine Zh ?_ | refine Zi ?_ | refine Zl ?_ | refine Zm ?_ | refine ok_reg ?_
    all_goals exact ⟨rfl, weak_mk rfl ⟨bq (by simp only [c2, *]; try rfl), .refl _, .refl _, .refl _, trivial⟩ ⟨⟨rfl, _, rfl, rfl, fun _ _ _ => .refl _⟩, ⟨rfl, _, rfl, rfl, fun _ _ _ => .refl _⟩, ⟨rfl, _, rfl, rfl, fun _ _ _ => .refl _⟩, trivial⟩⟩
  cases h2 : c2 s with
  | true =>
    rw [if_pos h2] at hm
    repeat' first
      | refine Z1 ?_ | refine Z2 ?_ | refine Zo ?_ | refine Zp ?_ | refine ok_ret ?_ | refine x_ret_then ?_ | refine Zt ?_
    exact ret_vb hm.symm
  | false =>
  rw [if_neg (by rw [h2]; simp)] at hm
  refine Zq ?_
  refine ok_skip ?_
  refine x_normal_then ?_
  refine ok_seq ?_
  refine ok_cut (envL [(55, vb (c3 s)), (3, .ref 0 0), (4, .ref 1 0), (5, .ref 2 0)]) (stL [some (.var [.d (.im (cs.map eCls))]), some (.var ((eCls c).map .d)), some (.var ((eSm s).map .d))]) ?_ ?_
  ·
    repeat' first
      | refine Z1 ?_ | refine Z3 ?_ | refine Z5 ?_ | refine Z6 ?_ | refine Z7 ?_ | refine Z8 ?_ | refine Z9 ?_ | refine Za (fun hc => ?_) (fun hc => ?_) | refine Zb (fun hc => ?_) (fun hc => ?_) | refine Zd ?_ | refine Zh ?_
      | refine Zi ?_ | refine Zl ?_ | refine Zm ?_ | refine ok_reg ?_
    all_goals exact ⟨rfl, weak_mk rfl ⟨bq (by simp only [c3, *]; try rfl), .refl _, .refl _, .refl _, trivial⟩ ⟨⟨rfl, _, rfl, rfl, fun _ _ _ => .refl _⟩, ⟨rfl, _, rfl, rfl, fun _ _ _ => .refl _⟩, ⟨rfl, _, rfl, rfl, fun _ _ _ => .refl _⟩, trivial⟩⟩
  cases h3 : c3 s with
  | true =>
    rw [if_pos h3] at hm
    repeat' first
      | refine Z1 ?_ | refine Z2 ?_ | refine Zo ?_ | refine Zp ?_ | refine ok_ret ?_ | refine x_ret_then ?_ | refine Zt ?_
    exact ret_vb hm.symm
  | false =>
  rw [if_neg (by rw [h3]; simp)] at hm
  refine Zq ?_
  refine ok_skip ?_
  refine x_normal_then ?_
  refine ok_seq ?_
  refine ok_cut (envL [(69, vb (c4 s)), (3, .ref 0 0), (4, .ref 1 0), (5, .ref 2 0)]) (stL [some (.var [.d (.im (cs.map eCls))]), some (.var ((eCls c).map .d)), some (.var ((eSm s).map .d))]) ?_ ?_
  ·
    repeat' first
      | refine Z1 ?_ | refine Z3 ?_ | refine Z5 ?_ | refine Z7 ?_ | refine Z8 ?_ | refine Za (fun hc => ?_) (fun hc => ?_) | refine Zd ?_ | refine Zh ?_ | refine Zi ?_ | refine Zl ?_ | refine Zm ?_ | refine ok_reg ?_
    all_goals exact ⟨rfl, weak_mk rfl ⟨bq (by simp only [c4, *]; try rfl), .refl _, .refl _, .refl _, trivial⟩ ⟨⟨rfl, _, rfl, rfl, fun _ _ _ => .refl _⟩, ⟨rfl, _, rfl, rfl, fun _ _ _ => .refl _⟩, ⟨rfl, _, rfl, rfl, fun _ _ _ => .refl _⟩, trivial⟩⟩
  cases h4 : c4 s with
  | true =>
    rw [if_pos h4] at hm
    repeat' first
      | refine Z1 ?_ | refine Z2 ?_ | refine Zo ?_ | refine Zp ?_ | refine ok_ret ?_ | refine x_ret_then ?_ | refine Zt ?_
    exact ret_vb hm.symm
  | false =>
  rw [if_neg (by rw [h4]; simp)] at hm
  refine Zq ?_
  refine ok_skip ?_
  refine x_normal_then ?_
  by_cases k1 : s.kind = 1
  · have q1 : decide (s.kind = 1) = true := decide_eq_true k1
    rw [if_pos k1] at hm
    cases hs1 : setS c s.name with
    | false =>
      rw [hs1, Bool.false_and] at hm
      repeat' first
        | refine Z1 ?_ | refine Z2 ?_ | refine Z5 ?_ | refine Z8 ?_ | refine Zc (sset_ok c s.name hw) ?_ | refine Zm ?_ | refine Zo ?_ | refine ok_seq ?_ | refine Zp ?_ | refine ok_block ?_ | refine ok_ret ?_ | refine x_ret_then ?_
        | refine x_ret_block ?_ | refine Zt ?_
      exact ret_vb hm.symm
    | true =>
      rw [hs1, Bool.true_and] at hm
      repeat' first
        | refine Z1 ?_ | refine Z2 ?_ | refine Z5 ?_ | refine Z7 ?_ | refine Zc (sset_ok c s.name hw) ?_ | refine Zc (mcode_ok c s.code hw hsl.1) ?_ | refine Zi ?_ | refine Zl ?_ | refine Zo ?_ | refine ok_seq ?_ | refine Zp ?_
        | refine ok_block ?_ | refine ok_ret ?_ | refine x_ret_then ?_ | refine x_ret_block ?_ | refine Zt ?_
      exact ret_vb hm.symm
  have q1 : decide (s.kind = 1) = false := decide_eq_false k1
  rw [if_neg k1] at hm
  by_cases k2 : s.kind = 2
  · have q2 : decide (s.kind = 2) = true := decide_eq_true k2
    rw [if_pos k2] at hm
    cases v1 : decide (0 ≤ s.pos) with
    | false =>
      rw [v1] at hm
      repeat' first
        | refine Z1 ?_ | refine Z2 ?_ | refine Z5 ?_ | refine Z8 ?_ | refine Zm ?_ | refine Zo ?_ | refine ok_seq ?_ | refine Zp ?_ | refine Zq ?_ | refine ok_block ?_ | refine ok_ret ?_ | refine x_ret_then ?_
        | refine x_ret_block ?_ | refine Zt ?_
      exact ret_vb hm.symm
    | true =>
      cases v2 : decide (s.pos < (c.mems.length : Int)) with
      | false =>
        rw [v1, v2] at hm
        repeat' first
          | refine Z1 ?_ | refine Z2 ?_ | refine Z5 ?_ | refine Z7 ?_ | refine Z8 ?_ | refine Zd ?_ | refine Zh ?_ | refine Zi ?_ | refine Zl ?_ | refine Zm ?_ | refine Zo ?_ | refine ok_seq ?_ | refine Zp ?_ | refine Zq ?_
          | refine ok_block ?_ | refine ok_ret ?_ | refine x_ret_then ?_ | refine x_ret_block ?_ | refine Zt ?_
        exact ret_vb hm.symm
      | true =>
        rw [v1, v2] at hm
        repeat' first
          | refine Z1 ?_ | refine Z2 ?_ | refine Z5 ?_ | refine Z7 ?_ | refine Zc (mcode_ok c s.code hw hsl.1) ?_ | refine Zd ?_ | refine Zh ?_ | refine Zi ?_ | refine Zl ?_ | refine Zo ?_ | refine ok_seq ?_ | refine Zp ?_
          | refine Zq ?_ | refine ok_block ?_ | refine ok_ret ?_ | refine x_ret_then ?_ | refine x_ret_block ?_ | refine Zt ?_
        exact ret_vb hm.symm
  have q2 : decide (s.kind = 2) = false := decide_eq_false k2
  rw [if_neg k2] at hm
  by_cases k4 : s.kind = 4
  · have q4 : decide (s.kind = 4) = true := decide_eq_true k4
    rw [if_pos k4] at hm
    repeat' first
      | refine Z1 ?_ | refine Z2 ?_ | refine Zw ?_ | refine Zx ?_ | refine Zz (Zc (svarsC_ok c hw) ⟨rfl, rfl⟩) ?_ | refine Zz (Zc (sin_ok (nmsC c) s.name hnl) ⟨rfl, rfl⟩) ?_ | refine Zo ?_ | refine ok_seq ?_
      | refine ok_draw X_mixed (by decide +kernel) ?_ | refine Zp ?_ | refine Zq ?_ | refine ok_block ?_ | refine ok_ret ?_ | refine x_ret_then ?_ | refine x_ret_block ?_ | refine Zt ?_
    exact ret_vb hm.symm
  have q4 : decide (s.kind = 4) = false := decide_eq_false k4
  rw [if_neg k4] at hm
  by_cases k5 : s.kind = 5
  · have q5 : decide (s.kind = 5) = true := decide_eq_true k5
    rw [if_pos (.inl k5)] at hm
    repeat' first
      | refine Z1 ?_ | refine Z2 ?_ | refine Zo ?_ | refine ok_seq ?_ | refine Zp ?_ | refine Zq ?_ | refine ok_block ?_ | refine ok_skip ?_ | refine ok_ret ?_ | refine x_normal_then ?_ | refine x_ret_then ?_
      | refine x_ret_block ?_ | refine Zt ?_
    exact ret_vb hm.symm
  have q5 : decide (s.kind = 5) = false := decide_eq_false k5
  by_cases k6 : s.kind = 6
  · have q6 : decide (s.kind = 6) = true := decide_eq_true k6
    rw [if_pos (.inr k6)] at hm
    repeat' first
      | refine Z1 ?_ | refine Z2 ?_ | refine Zo ?_ | refine ok_seq ?_ | refine ok_reg ?_ | refine Zp ?_ | refine Zq ?_ | refine ok_block ?_ | refine ok_ret ?_ | refine x_ret_then ?_ | refine x_ret_block ?_ | refine Zt ?_
    exact ret_vb hm.symm
  have q6 : decide (s.kind = 6) = false := decide_eq_false k6
  rw [if_neg (fun h => h.elim k5 k6)] at hm
  by_cases k3 : s.kind = 3
  · have q3 : decide (s.kind = 3) = true := decide_eq_true k3
    rw [if_pos k3] at hm
    by_cases p1 : s.pos < 0
    · have n1 : decide (s.pos < 0) = true := decide_eq_true p1
      rw [if_pos (.inl p1)] at hm
      repeat' first
        | refine Z1 ?_ | refine Z2 ?_ | refine Z5 ?_ | refine Z9 ?_ | refine Zl ?_ | refine Zo ?_ | refine ok_seq ?_ | refine ok_reg ?_ | refine Zp ?_ | refine Zq ?_ | refine ok_block ?_ | refine ok_ret ?_ | refine x_ret_then ?_
        | refine x_ret_block ?_ | refine Zt ?_
      exact ret_vb hm.symm
    have n1 : decide (s.pos < 0) = false := decide_eq_false p1
    by_cases p2 : (c.insts.length : Int) ≤ s.pos
    · have n2 : decide ((c.insts.length : Int) ≤ s.pos) = true := decide_eq_true p2
      rw [if_pos (.inr p2)] at hm
      repeat' first
        | refine Z1 ?_ | refine Z2 ?_ | refine Z5 ?_ | refine Z7 ?_ | refine Zd ?_ | refine Zh ?_ | refine Zi ?_ | refine Zm ?_ | refine Zo ?_ | refine ok_seq ?_ | refine ok_reg ?_ | refine Zp ?_ | refine Zq ?_ | refine ok_block ?_
        | refine ok_ret ?_ | refine x_ret_then ?_ | refine x_ret_block ?_ | refine Zt ?_
      exact ret_vb hm.symm
    have n2 : decide ((c.insts.length : Int) ≤ s.pos) = false := decide_eq_false p2
    rw [if_neg (fun h => h.elim p1 p2)] at hm
    obtain ⟨p, hp⟩ : ∃ p : Nat, s.pos = (p : Int) := ⟨s.pos.toNat, by omega⟩
    obtain ⟨g, hg⟩ : ∃ g, c.insts[p]? = some g := ⟨c.insts[p]'(by omega), List.getElem?_eq_getElem (by omega)⟩
    obtain ⟨g0, g1⟩ := hin g (List.mem_of_getElem? hg)
    obtain ⟨gn, hgn⟩ : ∃ gn : Nat, g = (gn : Int) := ⟨g.toNat, by omega⟩
    obtain ⟨d, hd2⟩ : ∃ d, cs[gn]? = some d := ⟨cs[gn]'(by omega), List.getElem?_eq_getElem (by omega)⟩
    rw [hp, Int.toNat_natCast, hg, Option.bind_some, hgn, Int.toNat_natCast, hd2] at hm
    dsimp only at hm
    repeat' first
      | refine Z1 ?_ | refine Z2 ?_ | refine Z5 ?_ | refine Z7 ?_ | refine Zd ?_ | refine Zh ?_ | refine Zi ?_ | refine Zm ?_ | refine Zo ?_ | refine ok_seq ?_ | refine ok_reg ?_ | refine Zp ?_ | refine Zq ?_ | refine ok_block ?_
      | refine ok_skip ?_ | refine x_normal_then ?_
    refine ok_drawE (fun j => j = 0 ∨ j = 1 ∨ j = 2) [10, 11] X_mixed (by decide +kernel) ?_
    repeat' first
      | refine Wl (i := 0) rfl (.inl rfl) ?_ | refine Wl (i := 1) rfl (.inr (.inl rfl)) ?_ | refine Wl (i := 2) rfl (.inr (.inr rfl)) ?_ | refine Wa ?_
    refine Wq (fun σ' _ => Ze (k := p) ⟨rfl, rfl⟩ rfl (congrArg vi hp) hg) ?_
    refine Wa ?_
    refine Wq (fun σ' _ => Ze (k := gn) ⟨rfl, rfl⟩ rfl (congrArg vi hgn) hd2) ?_
    refine Wa ?_
    refine We (Yu (i := 3) ⟨rfl, rfl⟩) (.inr (fun j hj => by rw [St.obj_alloc, if_neg (by show ¬ j = 3; omega)])) ?_
    refine We (Yt (i := 3) (m := (eCls d).map .d) rfl ⟨rfl, rfl⟩) (.inl rfl) ?_
    refine Wx ?_
    by_cases ho : s.outs.length = d.outs.length
    · have n3 : decide ((s.outs.length : Int) ≠ (d.outs.length : Int)) = false := decide_eq_false (fun h => h (by omega))
      by_cases hi : s.args.length = d.ins.length
      · have n4 : decide ((s.args.length : Int) ≠ (d.ins.length : Int)) = false := decide_eq_false (fun h => h (by omega))
        rw [if_pos ⟨ho, hi⟩] at hm
        repeat' first
          | refine Z1 ?_ | refine Z2 ?_ | refine Z5 ?_ | refine Z7 ?_ | refine Zd ?_ | refine Zh ?_ | refine Zi ?_ | refine Zm ?_ | refine Zo ?_ | refine ok_seq ?_ | refine Zq ?_ | refine ok_block ?_ | refine ok_skip ?_
          | refine x_normal_then ?_
        refine ok_for (ι := Nat) (fun x => envL [(3, .ref 0 0), (4, .ref 1 0), (5, .ref 2 0), (153, .d (.im (s.outs.map eStr))), (154, vi s.outs.length), (155, vi x)]) (fun x => stL [some (.var [.d (.im (cs.map eCls))]), some (.var ((eCls c).map .d)), some (.var ((eSm s).map .d)), none]) (fun x => x ≤ s.outs.length ∧ outsS c s.outs x (s.outs.drop x) = outsS c s.outs 0 s.outs) (fun x => s.outs.length - x) 0 (⟨Nat.zero_le _, rfl⟩) (weak_mk rfl ⟨.refl _, .refl _, .refl _, .refl _, .refl _, .refl _, trivial⟩ ⟨⟨rfl, _, rfl, rfl, fun _ _ _ => .refl _⟩, ⟨rfl, _, rfl, rfl, fun _ _ _ => .refl _⟩, ⟨rfl, _, rfl, rfl, fun _ _ _ => .refl _⟩, trivial⟩) (fun _ => Nat.le_refl 4) ?_
        rintro y ⟨l1, l2⟩
        by_cases hyl : y < s.outs.length
        · obtain ⟨x, hy⟩ : ∃ x, s.outs[y]? = some x := ⟨s.outs[y], List.getElem?_eq_getElem hyl⟩
          obtain ⟨hd3, hlt3⟩ := drop_some hy
          have ey : decide ((y : Int) < (s.outs.length : Int)) = true := decide_eq_true (by omega)
          rw [hd3] at l2
          simp only [outsS] at l2
          cases hv : setS c x with
          | false =>
            have n5 : (!setS c x) = true := by rw [hv]; rfl
            rw [if_pos (.inl hv)] at l2
            rw [← l2, Bool.false_and] at hm
            repeat' first
              | refine Z1 ?_ | refine Z2 ?_ | refine Z5 ?_ | refine Z9 ?_ | refine Zc (sset_ok c x hw) ?_ | refine Ze ?_ | refine Zl ?_ | refine Zo ?_ | refine ok_seq ?_ | refine Zp ?_ | refine ok_block ?_ | refine ok_skip ?_
              | refine ok_ret ?_ | refine x_normal_then ?_ | refine x_ret_then ?_ | refine x_ret_block ?_ | refine Zt ?_
            exact ret_vb hm.symm
          | true =>
            have n5 : (!setS c x) = false := by rw [hv]; rfl
            by_cases he : placeS x 0 s.outs < (y : Int)
            · have n6 : decide (placeS x 0 s.outs < (y : Int)) = true := decide_eq_true he
              rw [if_pos (.inr he)] at l2
              rw [← l2, Bool.false_and] at hm
              repeat' first
                | refine Z1 ?_ | refine Z2 ?_ | refine Z5 ?_ | refine Z7 ?_ | refine Zc (sset_ok c x hw) ?_ | refine Zc (splace_ok s.outs x hsl.2.1) ?_ | refine Ze ?_ | refine Zh ?_ | refine Zi ?_ | refine Zm ?_ | refine Zo ?_
                | refine ok_seq ?_ | refine Zp ?_ | refine ok_block ?_ | refine ok_skip ?_ | refine ok_ret ?_ | refine x_normal_then ?_ | refine x_ret_then ?_ | refine x_ret_block ?_ | refine Zt ?_
              exact ret_vb hm.symm
            · have n6 : decide (placeS x 0 s.outs < (y : Int)) = false := decide_eq_false he
              rw [if_neg (fun h => h.elim (by rw [hv]; intro h; cases h) he)] at l2
              repeat' first
                | refine Z1 ?_ | refine Z2 ?_ | refine Z5 ?_ | refine Z7 ?_ | refine Zc (sset_ok c x hw) ?_ | refine Zc (splace_ok s.outs x hsl.2.1) ?_ | refine Ze ?_ | refine Zf ?_ | refine Zh ?_ | refine Zi ?_ | refine Zm ?_
                | refine Zo ?_ | refine ok_seq ?_ | refine ok_reg ?_ | refine Zp ?_ | refine Zq ?_ | refine ok_block ?_ | refine ok_skip ?_ | refine x_normal_then ?_ | refine x_normal_block ?_
              exact ⟨y + 1, ⟨hlt3, l2⟩, by (try simp only); omega, low_mk (Nat.le_of_ble_eq_true rfl) ⟨⟨rfl, rfl⟩, ⟨rfl, rfl⟩, ⟨rfl, rfl⟩, ⟨rfl, rfl⟩, ⟨rfl, rfl⟩, ⟨rfl, rfl⟩, trivial⟩ ⟨⟨rfl, rfl⟩, ⟨rfl, rfl⟩, ⟨rfl, rfl⟩, trivial⟩⟩
        have ey : decide ((y : Int) < (s.outs.length : Int)) = false := decide_eq_false (by omega)
        rw [List.drop_eq_nil_of_le (by omega)] at l2
        have l2 : true = outsS c s.outs 0 s.outs := l2
        rw [← l2, Bool.true_and] at hm
        repeat' first
          | refine Z1 ?_ | refine Z2 ?_ | refine Z5 ?_ | refine Zd ?_ | refine Zo ?_ | refine ok_seq ?_ | refine Zq ?_ | refine ok_block ?_ | refine ok_exit ?_ | refine x_normal_then ?_ | refine x_exit_here ?_ | refine Zv ?_
        refine ok_for (ι := Nat) (fun x => envL [(3, .ref 0 0), (4, .ref 1 0), (5, .ref 2 0), (174, .d (.im (s.args.map eItms))), (175, vi s.args.length), (176, vi x)]) (fun x => stL [some (.var [.d (.im (cs.map eCls))]), some (.var ((eCls c).map .d)), some (.var ((eSm s).map .d)), none]) (fun x => x ≤ s.args.length ∧ (s.args.drop x).all (mcodeS c) = s.args.all (mcodeS c)) (fun x => s.args.length - x) 0 (⟨Nat.zero_le _, rfl⟩) (weak_mk rfl ⟨.refl _, .refl _, .refl _, .refl _, .refl _, .refl _, trivial⟩ ⟨⟨rfl, _, rfl, rfl, fun _ _ _ => .refl _⟩, ⟨rfl, _, rfl, rfl, fun _ _ _ => .refl _⟩, ⟨rfl, _, rfl, rfl, fun _ _ _ => .refl _⟩, trivial⟩) (fun _ => Nat.le_refl 4) ?_
        rintro y2 ⟨o1, o2⟩
        by_cases hyl2 : y2 < s.args.length
        · obtain ⟨x, hy⟩ : ∃ x, s.args[y2]? = some x := ⟨s.args[y2], List.getElem?_eq_getElem hyl2⟩
          obtain ⟨hd3, hlt3⟩ := drop_some hy
          have ey2 : decide ((y2 : Int) < (s.args.length : Int)) = true := decide_eq_true (by omega)
          have hxl : x.length ≤ 1048576 := by
            have := wL_mem (w := wL wItm) (List.mem_of_getElem? hy)
            simp only [wSm, wL] at this hs
            omega
          rw [hd3, List.all_cons] at o2
          cases hq : mcodeS c x with
          | false =>
            have n5 : (!mcodeS c x) = true := by rw [hq]; rfl
            rw [hq] at o2
            have o2 : false = s.args.all (mcodeS c) := o2
            rw [← o2] at hm
            repeat' first
              | refine Z1 ?_ | refine Z2 ?_ | refine Z5 ?_ | refine Zc (mcode_ok c x hw hxl) ?_ | refine Ze ?_ | refine Zo ?_ | refine ok_seq ?_ | refine Zp ?_ | refine ok_block ?_ | refine ok_skip ?_ | refine ok_ret ?_
              | refine x_normal_then ?_ | refine x_ret_then ?_ | refine x_ret_block ?_ | refine Zt ?_
            exact ret_vb hm.symm
          | true =>
            have n5 : (!mcodeS c x) = false := by rw [hq]; rfl
            rw [hq, Bool.true_and] at o2
            repeat' first
              | refine Z1 ?_ | refine Z2 ?_ | refine Z5 ?_ | refine Zc (mcode_ok c x hw hxl) ?_ | refine Ze ?_ | refine Zf ?_ | refine Zo ?_ | refine ok_seq ?_ | refine ok_reg ?_ | refine Zp ?_ | refine Zq ?_ | refine ok_block ?_
              | refine ok_skip ?_ | refine x_normal_then ?_ | refine x_normal_block ?_
            exact ⟨y2 + 1, ⟨hlt3, o2⟩, by (try simp only); omega, low_mk (Nat.le_of_ble_eq_true rfl) ⟨⟨rfl, rfl⟩, ⟨rfl, rfl⟩, ⟨rfl, rfl⟩, ⟨rfl, rfl⟩, ⟨rfl, rfl⟩, ⟨rfl, rfl⟩, trivial⟩ ⟨⟨rfl, rfl⟩, ⟨rfl, rfl⟩, ⟨rfl, rfl⟩, trivial⟩⟩
        have ey2 : decide ((y2 : Int) < (s.args.length : Int)) = false := decide_eq_false (by omega)
        rw [List.drop_eq_nil_of_le (by omega)] at o2
        have o2 : true = s.args.all (mcodeS c) := o2
        rw [← o2] at hm
        repeat' first
          | refine Z1 ?_ | refine Z2 ?_ | refine Zo ?_ | refine ok_seq ?_ | refine Zq ?_ | refine ok_exit ?_ | refine ok_ret ?_ | refine x_normal_then ?_ | refine x_exit_here ?_ | refine Zv ?_ | refine x_ret_then ?_
          | refine x_ret_block ?_ | refine Zt ?_
        exact ret_vb hm.symm
      · have n4 : decide ((s.args.length : Int) ≠ (d.ins.length : Int)) = true := decide_eq_true (fun h => hi (by omega))
        rw [if_neg (fun h => hi h.2)] at hm
        repeat' first
          | refine Z1 ?_ | refine Z2 ?_ | refine Z5 ?_ | refine Z7 ?_ | refine Zd ?_ | refine Zh ?_ | refine Zi ?_ | refine Zm ?_ | refine Zo ?_ | refine ok_seq ?_ | refine Zp ?_ | refine ok_ret ?_ | refine x_ret_then ?_
          | refine x_ret_block ?_ | refine Zt ?_
        exact ret_vb hm.symm
    · have n3 : decide ((s.outs.length : Int) ≠ (d.outs.length : Int)) = true := decide_eq_true (fun h => ho (by omega))
      rw [if_neg (fun h => ho h.1)] at hm
      repeat' first
        | refine Z1 ?_ | refine Z2 ?_ | refine Z5 ?_ | refine Z9 ?_ | refine Zd ?_ | refine Zl ?_ | refine Zo ?_ | refine ok_seq ?_ | refine Zp ?_ | refine ok_ret ?_ | refine x_ret_then ?_ | refine x_ret_block ?_ | refine Zt ?_
      exact ret_vb hm.symm
  have q3 : decide (s.kind = 3) = false := decide_eq_false k3
  rw [if_neg k3] at hm
  repeat' first
    | refine Z1 ?_ | refine Z2 ?_ | refine Zo ?_ | refine ok_seq ?_ | refine ok_reg ?_ | refine Zq ?_ | refine ok_block ?_ | refine ok_skip ?_ | refine ok_ret ?_ | refine x_normal_then ?_ | refine x_normal_block ?_ | refine Zt ?_
  exact ret_vb hm.symm
end Go.Pm
