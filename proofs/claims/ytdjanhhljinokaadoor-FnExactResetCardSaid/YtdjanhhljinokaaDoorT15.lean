/- measured. -/
import Derived.Test.YtdjanhhljinokaaDoorT14
import Derived.Test.YtdjanhhljinokaaDoorT12
import Derived.Test.YtdjanhhljinokaaDoorT9
import Derived.Test.YtdjanhhljinokaaDoorT7
set_option linter.unusedVariables false
set_option linter.unusedSimpArgs false
namespace Go.Pm
attribute [local irreducible] AR Ok inBlock andThen endQ aoper
set_option maxHeartbeats 8000000
open Go.Proofs
theorem finR_low : ∀ o, low 0 (finR o) = true
  | none => rfl
  | some (_, _) => rfl
theorem leafF {cs : List Cls} (h : none = mI cs) : AEnd.ret (.tup [.d (.s (.pointer none)), vb false]) = AEnd.ret (finR (mI cs)) := by rw [← h]; rfl
theorem fz_sizes {σ : St} {Z B : List Int} (h1 : σ.obj 1 = some (.var [.sl 4 6 0 Z.length, .sl 5 7 0 B.length])) (h4 : σ.obj 4 = some (.row 6 3 1 (im2 eNum Z))) (h5 : σ.obj 5 = some (.row 7 3 1 (im2 eNum B))) : Fz σ (.ref 1 0) (.ip [.im (Z.map eNum), .im (B.map eNum)] 0) := by
  have key : FzL σ [.sl 4 6 0 Z.length, .sl 5 7 0 B.length] [.im (Z.map eNum), .im (B.map eNum)] := ⟨fz_im2 h4 rfl, fz_im2 h5 rfl, trivial⟩
  exact .ref h1 key.get.1 key.get.2
def eSlts (l : List Slt) : List D := [.im (l.map eSlt)]
def bdZ (Z : List Int) : Prop := ∀ z ∈ Z, 0 ≤ z ∧ z ≤ 20000
theorem measured_ok (cs : List Cls) (hw : wL wCls cs ≤ 1048576) : PFun X 24 [.agg [.d (.im (cs.map eCls))]] (finR (mI cs)) := by
  have hcl : cs.length ≤ 1048576 := by simp only [wL] at hw; omega
  refine pfun_of Tryd.func24 rfl (by decide) Tryd.ntmps24 Tryd.results24 (by simp) rfl (finR_low _) ?_
  by_cases hb : (cs.length : Int) < 1 ∨ 200 < (cs.length : Int)
  · have hm : none = mI cs := by simp only [mI, if_pos hb]
    by_cases h1 : (cs.length : Int) < 1
    · have e1 : decide ((cs.length : Int) < 1) = true := decide_eq_true h1
      repeat' first
        | refine Z1 ?_ | refine Z2 ?_ | refine Z5 ?_ | refine Z9 ?_ | refine Zd ?_ | refine Zl ?_ | refine ret2 ?_ | refine Zo ?_ | refine ok_seq ?_ | refine Zp ?_ | refine ok_ret ?_ | refine x_ret_then ?_
      exact leafF hm
    · have e1 : decide ((cs.length : Int) < 1) = false := decide_eq_false h1
      have e2 : decide (200 < (cs.length : Int)) = true := decide_eq_true (by omega)
      repeat' first
        | refine Z1 ?_ | refine Z2 ?_ | refine Z5 ?_ | refine Z7 ?_ | refine Zd ?_ | refine Zh ?_ | refine Zi ?_ | refine Zm ?_ | refine ret2 ?_ | refine Zo ?_ | refine ok_seq ?_ | refine Zp ?_ | refine ok_ret ?_ | refine x_ret_then ?_
      exact leafF hm
  have e1 : decide ((cs.length : Int) < 1) = false := decide_eq_false (by omega)
  have e2 : decide (200 < (cs.length : Int)) = false := decide_eq_false (by omega)
  have hm : mGo cs 0 (cs.drop 0) [] [] [] = mI cs := by simp only [mI, if_neg hb, List.drop_zero]
  repeat' first
    | refine Z1 ?_ | refine Z2 ?_ | refine Z5 ?_ | refine Z7 ?_ | refine Yd (kk := .string) ?_ | refine Zd ?_ | refine Zh ?_ | refine Zi ?_ | refine Zm ?_ | refine Zo ?_ | refine ok_seq ?_ | refine Zq ?_ | refine ok_block ?_
    | refine ok_skip ?_ | refine x_normal_then ?_
  refine ok_turn (turn_ownv 1 3 1 rfl (cs' := [.sl 4 4 0 0, .d (.s (.slice none 0 0))]) rfl rfl ⟨.nil, .refl _, trivial⟩) ?_
  refine ok_turn (turn_ownv 1 3 1 rfl (cs' := [.sl 4 4 0 0, .sl 5 5 0 0]) rfl rfl ⟨.refl _, .nil, trivial⟩) ?_
  refine ok_forR (ι := Nat × List (ByteArray × Bool) × List Int × List Int) (fun x_ => envL [(1, .ref 0 0), (4, .ref 2 0), (5, .mp 3), (52, .d (.im (cs.map eCls))), (53, vi cs.length), (54, vi x_.1)]) (fun x_ => stL [some (.var [.d (.im (cs.map eCls))]), some (.var [.sl 4 6 0 x_.2.2.1.length, .sl 5 7 0 x_.2.2.2.length]), some (.var [.ref 1 0]), some (.map .string (smap vb x_.2.1)), some (.row 6 3 1 (im2 eNum x_.2.2.1)), some (.row 7 3 1 (im2 eNum x_.2.2.2)), none, none]) (fun x_ => x_.1 ≤ cs.length ∧ x_.2.2.1.length = x_.1 ∧ x_.2.2.2.length = x_.1 ∧ bdZ x_.2.2.1 ∧ bdB x_.2.2.2 ∧ mGo cs x_.1 (cs.drop x_.1) x_.2.1 x_.2.2.1 x_.2.2.2 = mI cs) (fun x_ => cs.length - x_.1) (0, [], [], []) (⟨Nat.zero_le _, rfl, rfl, fun _ h => (by cases h), fun _ h => (by cases h), hm⟩) Turn.refl (lowR_mk [(6, 4), (7, 5)] rfl rfl rfl ⟨⟨rfl, rfl⟩, ⟨rfl, rfl⟩, ⟨rfl, rfl⟩, ⟨rfl, rfl⟩, ⟨rfl, rfl⟩, ⟨rfl, rfl⟩, trivial⟩ ⟨⟨rfl, rfl⟩, ⟨rfl, rfl⟩, ⟨rfl, rfl⟩, ⟨by first | exact renO_map _ (fun _ => rfl) | rfl, smap_low (fun _ => rfl) _⟩, ⟨renO_row rfl (by first | exact im2_ren _ _ _ | rfl), blt_lt rfl, im2_low _ _ _⟩, ⟨renO_row rfl (by first | exact im2_ren _ _ _ | rfl), blt_lt rfl, im2_low _ _ _⟩, trivial⟩) ?_
  rintro ⟨k, N, Z, B⟩ ⟨i1, i2, i3, i4, i5, i6⟩
  simp only at i1 i2 i3 i4 i5 i6
  rcases hx : cs[k]? with _ | c
  · have hle := none_le hx
    have ek : decide ((k : Int) < (cs.length : Int)) = false := decide_eq_false (by omega)
    rw [drop_none hx] at i6
    simp only [mGo] at i6
    repeat' first
      | refine Z1 ?_ | refine Z2 ?_ | refine fzt2 2 3 (x := .d (.ip [.im (Z.map eNum), .im (B.map eNum)] 0)) (y := vb true) (.data (fz_sizes rfl rfl rfl)) (.data (.d _)) ?_ | refine ret2 ?_ | refine Zo ?_ | refine ok_seq ?_ | refine Zq ?_
      | refine ok_exit ?_ | refine ok_ret ?_ | refine x_normal_then ?_ | refine x_exit_here ?_ | refine Zv ?_
    show AEnd.ret _ = AEnd.ret (finR (mI cs))
    rw [← i6]; rfl
  obtain ⟨hd, hlt⟩ := drop_some hx
  have ek : decide ((k : Int) < (cs.length : Int)) = true := decide_eq_true (by omega)
  have hwc := wL_mem (w := wCls) (List.mem_of_getElem? hx)
  have hwc2 : wCls c ≤ 1048576 := by simp only [wL] at hw; omega
  simp only [wCls, wL, List.length_map] at hwc2
  rw [hd] at i6
  simp only [mGo] at i6
  generalize hG : (fun p : Int × Int => mGo cs (k + 1) (cs.drop (k + 1)) (sput N c.name true) (Z ++ [p.1]) (B ++ [p.2])) = G at i6
  unfold classI at i6
  by_cases hh : headBad N c
  · rw [if_pos hh] at i6
    cases hn : nameI c.name with
    | false =>
      have e3 : (!nameI c.name) = true := by rw [hn]; rfl
      repeat' first
        | refine Z1 ?_ | refine Z2 ?_ | refine Z5 ?_ | refine Z9 ?_ | refine Zc (name_ok c.name) ?_ | refine Ze ?_ | refine Zl ?_ | refine ret2 ?_ | refine Zo ?_ | refine ok_seq ?_ | refine Zp ?_ | refine ok_block ?_ | refine ok_skip ?_
        | refine ok_ret ?_ | refine x_normal_then ?_ | refine x_ret_then ?_ | refine x_ret_block ?_
      exact leafF i6
    | true =>
      have e3 : (!nameI c.name) = false := by rw [hn]; rfl
      have e4 : (sfind N c.name).getD false = true := hh.resolve_left (by rw [hn]; intro h; cases h)
      repeat' first
        | refine Z1 ?_ | refine Z2 ?_ | refine Z5 ?_ | refine Z7 ?_ | refine Zc (name_ok c.name) ?_ | refine Yb (e := vb) ?_ | refine Ze ?_ | refine Zi ?_ | refine Zm ?_ | refine ret2 ?_ | refine Zo ?_ | refine ok_seq ?_ | refine Zp ?_
        | refine ok_block ?_ | refine ok_skip ?_ | refine ok_ret ?_ | refine x_normal_then ?_ | refine x_ret_then ?_ | refine x_ret_block ?_
      exact leafF i6
  rw [if_neg hh] at i6
  have e3 : (!nameI c.name) = false := by cases hn : nameI c.name with | false => exact absurd (.inl hn) hh | true => rfl
  have e4 : (sfind N c.name).getD false = false := by cases hn : (sfind N c.name).getD false with | false => rfl | true => exact absurd (.inr hn) hh
  by_cases hs : sizeBad c
  · rw [if_pos hs] at i6
    by_cases h1 : (c.outs.length : Int) < 1
    · have f1 : decide ((c.outs.length : Int) < 1) = true := decide_eq_true h1
      repeat' first
        | refine Z1 ?_ | refine Z2 ?_ | refine Z5 ?_ | refine Z7 ?_ | refine Z9 ?_ | refine Zc (name_ok c.name) ?_ | refine Yb (e := vb) ?_ | refine Yc (e := vb) (b := true) ?_ | refine Zd ?_ | refine Ze ?_ | refine Zi ?_ | refine Zl ?_
        | refine Zm ?_ | refine ret2 ?_ | refine Zo ?_ | refine ok_seq ?_ | refine Zp ?_ | refine Zq ?_ | refine ok_block ?_ | refine ok_skip ?_ | refine ok_ret ?_ | refine x_normal_then ?_ | refine x_ret_then ?_ | refine x_ret_block ?_
      exact leafF i6
    have f1 : decide ((c.outs.length : Int) < 1) = false := decide_eq_false h1
    by_cases h2 : 1000 < ((c.ins.length : Int) + c.outs.length + c.locs.length)
    · have f2 : decide (1000 < ((c.ins.length : Int) + c.outs.length + c.locs.length)) = true := decide_eq_true h2
      repeat' first
        | refine Z1 ?_ | refine Z2 ?_ | refine Z5 ?_ | refine Z7 ?_ | refine Z9 ?_ | refine Zc (name_ok c.name) ?_ | refine Yb (e := vb) ?_ | refine Yc (e := vb) (b := true) ?_ | refine Zd ?_ | refine Ze ?_ | refine Zf ?_ | refine Zh ?_
        | refine Zi ?_ | refine Zl ?_ | refine Zm ?_ | refine ret2 ?_ | refine Zo ?_ | refine ok_seq ?_ | refine Zp ?_ | refine Zq ?_ | refine ok_block ?_ | refine ok_skip ?_ | refine ok_ret ?_ | refine x_normal_then ?_ | refine x_ret_then ?_
        | refine x_ret_block ?_
      exact leafF i6
    have f2 : decide (1000 < ((c.ins.length : Int) + c.outs.length + c.locs.length)) = false := decide_eq_false h2
    by_cases h3 : 1000 < (c.mems.length : Int)
    · have f3 : decide (1000 < (c.mems.length : Int)) = true := decide_eq_true h3
      repeat' first
        | refine Z1 ?_ | refine Z2 ?_ | refine Z5 ?_ | refine Z7 ?_ | refine Z9 ?_ | refine Zc (name_ok c.name) ?_ | refine Yb (e := vb) ?_ | refine Yc (e := vb) (b := true) ?_ | refine Zd ?_ | refine Ze ?_ | refine Zf ?_ | refine Zh ?_
        | refine Zi ?_ | refine Zl ?_ | refine Zm ?_ | refine ret2 ?_ | refine Zo ?_ | refine ok_seq ?_ | refine Zp ?_ | refine Zq ?_ | refine ok_block ?_ | refine ok_skip ?_ | refine ok_ret ?_ | refine x_normal_then ?_ | refine x_ret_then ?_
        | refine x_ret_block ?_
      exact leafF i6
    have f3 : decide (1000 < (c.mems.length : Int)) = false := decide_eq_false h3
    by_cases h4 : 1000 < (c.insts.length : Int)
    · have f4 : decide (1000 < (c.insts.length : Int)) = true := decide_eq_true h4
      repeat' first
        | refine Z1 ?_ | refine Z2 ?_ | refine Z5 ?_ | refine Z7 ?_ | refine Z9 ?_ | refine Zc (name_ok c.name) ?_ | refine Yb (e := vb) ?_ | refine Yc (e := vb) (b := true) ?_ | refine Zd ?_ | refine Ze ?_ | refine Zf ?_ | refine Zh ?_
        | refine Zi ?_ | refine Zl ?_ | refine Zm ?_ | refine ret2 ?_ | refine Zo ?_ | refine ok_seq ?_ | refine Zp ?_ | refine Zq ?_ | refine ok_block ?_ | refine ok_skip ?_ | refine ok_ret ?_ | refine x_normal_then ?_ | refine x_ret_then ?_
        | refine x_ret_block ?_
      exact leafF i6
    have f4 : decide (1000 < (c.insts.length : Int)) = false := decide_eq_false h4
    have h5 : 30000 < (c.body.length : Int) := by unfold sizeBad at hs; rcases hs with h | h | h | h | h <;> first | exact h | exact absurd h ‹_›
    have f5 : decide (30000 < (c.body.length : Int)) = true := decide_eq_true h5
    repeat' first
      | refine Z1 ?_ | refine Z2 ?_ | refine Z5 ?_ | refine Z7 ?_ | refine Zc (name_ok c.name) ?_ | refine Yb (e := vb) ?_ | refine Yc (e := vb) (b := true) ?_ | refine Zd ?_ | refine Ze ?_ | refine Zf ?_ | refine Zh ?_ | refine Zi ?_
      | refine Zm ?_ | refine ret2 ?_ | refine Zo ?_ | refine ok_seq ?_ | refine Zp ?_ | refine Zq ?_ | refine ok_block ?_ | refine ok_skip ?_ | refine ok_ret ?_ | refine x_normal_then ?_ | refine x_ret_then ?_ | refine x_ret_block ?_
    exact leafF i6
  rw [if_neg hs] at i6
  simp only [sizeBad, not_or] at hs
  obtain ⟨s1, s2, s3, s4, s5⟩ := hs
  have f1 : decide ((c.outs.length : Int) < 1) = false := decide_eq_false s1
  have f2 : decide (1000 < ((c.ins.length : Int) + c.outs.length + c.locs.length)) = false := decide_eq_false s2
  have f3 : decide (1000 < (c.mems.length : Int)) = false := decide_eq_false s3
  have f4 : decide (1000 < (c.insts.length : Int)) = false := decide_eq_false s4
  have f5 : decide (30000 < (c.body.length : Int)) = false := decide_eq_false s5
  repeat' first
    | refine Z1 ?_ | refine Z2 ?_ | refine Z4 ?_ | refine Z5 ?_ | refine Z7 ?_ | refine Zc (name_ok c.name) ?_ | refine Yb (e := vb) ?_ | refine Yc (e := vb) (b := true) ?_ | refine Yd (kk := .string) ?_ | refine Yq ?_
    | refine Zd (e := eSlts) (l := [c.ins, c.outs]) ?_ | refine Zd ?_ | refine Ze ?_ | refine Zf ?_ | refine Zh ?_ | refine Zi ?_ | refine Zm ?_ | refine Zo ?_ | refine ok_seq ?_ | refine Zp ?_ | refine Zq ?_ | refine ok_block ?_
    | refine ok_skip ?_ | refine x_normal_then ?_
  unfold k1 at i6
  refine ok_for (ι := Nat × Vm) (fun x_ => envL [(1, .ref 0 0), (4, .ref 2 0), (5, .mp 3), (52, .d (.im (cs.map eCls))), (53, vi cs.length), (54, vi k), (6, vi k), (7, .ref 8 0), (8, .ref 10 0), (9, .fn 42 [.ref 10 0]), (114, .d (.im ([c.ins, c.outs].map eSlts))), (115, vi 2), (116, vi x_.1)]) (fun x_ => stL [some (.var [.d (.im (cs.map eCls))]), some (.var [.sl 4 6 0 Z.length, .sl 5 7 0 B.length]), some (.var [.ref 1 0]), some (.map .string (smap vb (sput N c.name true))), some (.row 6 3 1 (im2 eNum Z)), some (.row 7 3 1 (im2 eNum B)), none, none, some (.var ((eCls c).map .d)), some (.map .string (smap vi x_.2)), some (.var [.mp 9]), none]) (fun x_ => x_.1 ≤ 2 ∧ ((slotsGo x_.1 ([c.ins, c.outs].drop x_.1) x_.2).bind (k0 cs k Z B c)).bind G = mI cs) (fun x_ => 2 - x_.1) (0, []) (⟨Nat.zero_le _, i6⟩) (weak_mk rfl ⟨.refl _, .refl _, .refl _, .refl _, .refl _, .refl _, .refl _, .refl _, .refl _, .refl _, .refl _, .refl _, .refl _, trivial⟩ ⟨⟨rfl, _, rfl, rfl, fun _ _ _ => .refl _⟩, ⟨rfl, _, rfl, rfl, fun _ _ _ => .refl _⟩, ⟨rfl, _, rfl, rfl, fun _ _ _ => .refl _⟩, ⟨rfl, _, rfl, rfl, rfl⟩, ⟨rfl, _, rfl, rfl, rfl, rfl, rfl⟩, ⟨rfl, _, rfl, rfl, rfl, rfl, rfl⟩, ⟨rfl, _, rfl, rfl, fun _ _ _ => .refl _⟩, ⟨rfl, _, rfl, rfl, rfl⟩, ⟨rfl, _, rfl, rfl, fun _ _ _ => .refl _⟩, trivial⟩) (fun _ => Nat.le_refl 12) ?_
  rintro ⟨q, F⟩ ⟨j1, j2⟩
  simp only at j1 j2
  by_cases hq2 : q < 2
  · obtain ⟨l, hl⟩ : ∃ l, [c.ins, c.outs][q]? = some l := ⟨[c.ins, c.outs][q]'hq2, List.getElem?_eq_getElem hq2⟩
    have hld := (drop_some hl).1
    have hll : l.length ≤ 1000 := by
      have := List.mem_of_getElem? hl
      simp only [List.mem_cons, List.not_mem_nil, or_false] at this
      rcases this with rfl | rfl <;> omega
    have eq2 : decide ((q : Int) < 2) = true := decide_eq_true (by omega)
    rw [hld] at j2
    simp only [slotsGo] at j2
    repeat' first
      | refine Z1 ?_ | refine Z2 ?_ | refine Z5 ?_ | refine Zd ?_ | refine Ze ?_ | refine Zo ?_ | refine ok_seq ?_ | refine Zp ?_ | refine ok_block ?_ | refine ok_skip ?_ | refine x_normal_then ?_
    refine ok_for (ι := Nat × Vm) (fun x_ => envL [(1, .ref 0 0), (4, .ref 2 0), (5, .mp 3), (52, .d (.im (cs.map eCls))), (53, vi cs.length), (54, vi k), (6, vi k), (7, .ref 8 0), (8, .ref 10 0), (9, .fn 42 [.ref 10 0]), (114, .d (.im ([c.ins, c.outs].map eSlts))), (115, vi 2), (116, vi q), (10, vi q), (121, .d (.im (l.map eSlt))), (122, vi l.length), (123, vi x_.1)]) (fun x_ => stL [some (.var [.d (.im (cs.map eCls))]), some (.var [.sl 4 6 0 Z.length, .sl 5 7 0 B.length]), some (.var [.ref 1 0]), some (.map .string (smap vb (sput N c.name true))), some (.row 6 3 1 (im2 eNum Z)), some (.row 7 3 1 (im2 eNum B)), none, none, some (.var ((eCls c).map .d)), some (.map .string (smap vi x_.2)), some (.var [.mp 9]), none]) (fun x_ => x_.1 ≤ l.length ∧ (((slotGo q x_.2 (l.drop x_.1)).bind (slotsGo (q + 1) ([c.ins, c.outs].drop (q + 1)))).bind (k0 cs k Z B c)).bind G = mI cs) (fun x_ => l.length - x_.1) (0, F) (⟨Nat.zero_le _, j2⟩) (weak_mk rfl ⟨.refl _, .refl _, .refl _, .refl _, .refl _, .refl _, .refl _, .refl _, .refl _, .refl _, .refl _, .refl _, .refl _, .refl _, .refl _, .refl _, .refl _, trivial⟩ ⟨⟨rfl, _, rfl, rfl, fun _ _ _ => .refl _⟩, ⟨rfl, _, rfl, rfl, fun _ _ _ => .refl _⟩, ⟨rfl, _, rfl, rfl, fun _ _ _ => .refl _⟩, ⟨rfl, _, rfl, rfl, rfl⟩, ⟨rfl, _, rfl, rfl, rfl, rfl, rfl⟩, ⟨rfl, _, rfl, rfl, rfl, rfl, rfl⟩, ⟨rfl, _, rfl, rfl, fun _ _ _ => .refl _⟩, ⟨rfl, _, rfl, rfl, rfl⟩, ⟨rfl, _, rfl, rfl, fun _ _ _ => .refl _⟩, trivial⟩) (fun _ => Nat.le_refl 12) ?_
    rintro ⟨y, F⟩ ⟨l1, l2⟩
    simp only at l1 l2
    rcases hy : l[y]? with _ | x
    · have hle := none_le hy
      have ey : decide ((y : Int) < (l.length : Int)) = false := decide_eq_false (by omega)
      rw [drop_none hy] at l2
      simp only [slotGo, Option.bind_some] at l2
      repeat' first
        | refine Z1 ?_ | refine Z2 ?_ | refine Z5 ?_ | refine Zf ?_ | refine Zo ?_ | refine ok_seq ?_ | refine ok_reg ?_ | refine Zq ?_ | refine ok_exit ?_ | refine x_normal_then ?_ | refine x_exit_here ?_ | refine Zv ?_
        | refine x_normal_block ?_
      exact ⟨(q + 1, F), ⟨by simp only; omega, l2⟩, by (try simp only); omega, low_mk (Nat.le_of_ble_eq_true rfl) ⟨⟨rfl, rfl⟩, ⟨rfl, rfl⟩, ⟨rfl, rfl⟩, ⟨rfl, rfl⟩, ⟨rfl, rfl⟩, ⟨rfl, rfl⟩, ⟨rfl, rfl⟩, ⟨rfl, rfl⟩, ⟨rfl, rfl⟩, ⟨rfl, rfl⟩, ⟨rfl, rfl⟩, ⟨rfl, rfl⟩, ⟨rfl, rfl⟩, trivial⟩ ⟨⟨rfl, rfl⟩, ⟨rfl, rfl⟩, ⟨rfl, rfl⟩, ⟨rfl, smap_low (fun _ => rfl) _⟩, ⟨rfl, blt_lt rfl, im2_low _ _ _⟩, ⟨rfl, blt_lt rfl, im2_low _ _ _⟩, ⟨rfl, rfl⟩, ⟨rfl, smap_low (fun _ => rfl) _⟩, ⟨rfl, rfl⟩, trivial⟩⟩
    obtain ⟨hd2, hlt2⟩ := drop_some hy
    have ey : decide ((y : Int) < (l.length : Int)) = true := decide_eq_true (by omega)
    rw [hd2] at l2
    simp only [slotGo] at l2
    cases ha : addOK F x.name with
    | false =>
      rw [if_neg (by rw [ha]; simp)] at l2
      have n2 : (!addOK F x.name) = true := by rw [ha]; rfl
      repeat' first
        | refine Z1 ?_ | refine Z2 ?_ | refine Z5 ?_ | refine Z6 ?_ | refine Z9 ?_ | refine Yp (add_ok (F := F) (i := 10) (j := 9) rfl rfl x.name (q : Int)) ?_ | refine Ze ?_ | refine Zl ?_ | refine ret2 ?_ | refine Zo ?_ | refine ok_seq ?_
        | refine Zp ?_ | refine ok_block ?_ | refine ok_skip ?_ | refine ok_ret ?_ | refine x_normal_then ?_ | refine x_ret_then ?_ | refine x_ret_block ?_
      exact leafF l2
    | true =>
      have n2 : (!addOK F x.name) = false := by rw [ha]; rfl
      by_cases t1 : x.type = 1
      · have t2 : decide (x.type ≠ 1) = false := decide_eq_false (fun h => h t1)
        rw [if_pos ⟨ha, .inl t1⟩] at l2
        repeat' first
          | refine Z1 ?_ | refine Z2 ?_ | refine Z5 ?_ | refine Z7 ?_ | refine Z8 ?_ | refine Yp (add_ok (F := F) (i := 10) (j := 9) rfl rfl x.name (q : Int)) ?_ | refine Ze ?_ | refine Zf ?_ | refine Zh ?_ | refine Zi ?_ | refine Zm ?_
          | refine Zo ?_ | refine ok_seq ?_ | refine ok_reg ?_ | refine Zp ?_ | refine Zq ?_ | refine ok_block ?_ | refine ok_skip ?_ | refine x_normal_then ?_ | refine x_normal_block ?_
        exact ⟨(y + 1, sput F x.name q), ⟨hlt2, l2⟩, by (try simp only); omega, low_mk (Nat.le_of_ble_eq_true rfl) ⟨⟨rfl, rfl⟩, ⟨rfl, rfl⟩, ⟨rfl, rfl⟩, ⟨rfl, rfl⟩, ⟨rfl, rfl⟩, ⟨rfl, rfl⟩, ⟨rfl, rfl⟩, ⟨rfl, rfl⟩, ⟨rfl, rfl⟩, ⟨rfl, rfl⟩, ⟨rfl, rfl⟩, ⟨rfl, rfl⟩, ⟨rfl, rfl⟩, ⟨rfl, rfl⟩, ⟨rfl, rfl⟩, ⟨rfl, rfl⟩, ⟨rfl, rfl⟩, trivial⟩ ⟨⟨rfl, rfl⟩, ⟨rfl, rfl⟩, ⟨rfl, rfl⟩, ⟨rfl, smap_low (fun _ => rfl) _⟩, ⟨rfl, blt_lt rfl, im2_low _ _ _⟩, ⟨rfl, blt_lt rfl, im2_low _ _ _⟩, ⟨rfl, rfl⟩, ⟨rfl, smap_low (fun _ => rfl) _⟩, ⟨rfl, rfl⟩, trivial⟩⟩
      have t2 : decide (x.type ≠ 1) = true := decide_eq_true t1
      by_cases t2' : x.type = 2
      · have t3 : decide (x.type ≠ 2) = false := decide_eq_false (fun h => h t2')
        rw [if_pos ⟨ha, .inr t2'⟩] at l2
        repeat' first
          | refine Z1 ?_ | refine Z2 ?_ | refine Z5 ?_ | refine Z7 ?_ | refine Yp (add_ok (F := F) (i := 10) (j := 9) rfl rfl x.name (q : Int)) ?_ | refine Ze ?_ | refine Zf ?_ | refine Zh ?_ | refine Zi ?_ | refine Zl ?_ | refine Zm ?_
          | refine Zo ?_ | refine ok_seq ?_ | refine ok_reg ?_ | refine Zp ?_ | refine Zq ?_ | refine ok_block ?_ | refine ok_skip ?_ | refine x_normal_then ?_ | refine x_normal_block ?_
        exact ⟨(y + 1, sput F x.name q), ⟨hlt2, l2⟩, by (try simp only); omega, low_mk (Nat.le_of_ble_eq_true rfl) ⟨⟨rfl, rfl⟩, ⟨rfl, rfl⟩, ⟨rfl, rfl⟩, ⟨rfl, rfl⟩, ⟨rfl, rfl⟩, ⟨rfl, rfl⟩, ⟨rfl, rfl⟩, ⟨rfl, rfl⟩, ⟨rfl, rfl⟩, ⟨rfl, rfl⟩, ⟨rfl, rfl⟩, ⟨rfl, rfl⟩, ⟨rfl, rfl⟩, ⟨rfl, rfl⟩, ⟨rfl, rfl⟩, ⟨rfl, rfl⟩, ⟨rfl, rfl⟩, trivial⟩ ⟨⟨rfl, rfl⟩, ⟨rfl, rfl⟩, ⟨rfl, rfl⟩, ⟨rfl, smap_low (fun _ => rfl) _⟩, ⟨rfl, blt_lt rfl, im2_low _ _ _⟩, ⟨rfl, blt_lt rfl, im2_low _ _ _⟩, ⟨rfl, rfl⟩, ⟨rfl, smap_low (fun _ => rfl) _⟩, ⟨rfl, rfl⟩, trivial⟩⟩
      · have t3 : decide (x.type ≠ 2) = true := decide_eq_true t2'
        rw [if_neg (fun h => h.2.elim t1 t2')] at l2
        repeat' first
          | refine Z1 ?_ | refine Z2 ?_ | refine Z5 ?_ | refine Z7 ?_ | refine Yp (add_ok (F := F) (i := 10) (j := 9) rfl rfl x.name (q : Int)) ?_ | refine Ze ?_ | refine Zh ?_ | refine Zi ?_ | refine Zl ?_ | refine Zm ?_ | refine ret2 ?_
          | refine Zo ?_ | refine ok_seq ?_ | refine Zp ?_ | refine ok_block ?_ | refine ok_skip ?_ | refine ok_ret ?_ | refine x_normal_then ?_ | refine x_ret_then ?_ | refine x_ret_block ?_
        exact leafF l2
  have hq : q = 2 := by omega
  subst hq
  have eq2 : decide (((2 : Nat) : Int) < 2) = false := rfl
  have j2 : (k0 cs k Z B c F).bind G = mI cs := j2
  unfold k0 at j2
  repeat' first
    | refine Z1 ?_ | refine Z2 ?_ | refine Z5 ?_ | refine Zd ?_ | refine Zo ?_ | refine ok_seq ?_ | refine Zq ?_ | refine ok_block ?_ | refine ok_exit ?_ | refine x_normal_then ?_ | refine x_exit_here ?_ | refine Zv ?_
  refine ok_for (ι := Nat × Vm) (fun x_ => envL [(1, .ref 0 0), (4, .ref 2 0), (5, .mp 3), (52, .d (.im (cs.map eCls))), (53, vi cs.length), (54, vi k), (6, vi k), (7, .ref 8 0), (8, .ref 10 0), (9, .fn 42 [.ref 10 0]), (146, .d (.im (c.locs.map eStr))), (147, vi c.locs.length), (148, vi x_.1)]) (fun x_ => stL [some (.var [.d (.im (cs.map eCls))]), some (.var [.sl 4 6 0 Z.length, .sl 5 7 0 B.length]), some (.var [.ref 1 0]), some (.map .string (smap vb (sput N c.name true))), some (.row 6 3 1 (im2 eNum Z)), some (.row 7 3 1 (im2 eNum B)), none, none, some (.var ((eCls c).map .d)), some (.map .string (smap vi x_.2)), some (.var [.mp 9]), none]) (fun x_ => x_.1 ≤ c.locs.length ∧ ((locGo x_.2 (c.locs.drop x_.1)).bind (k2 cs k Z B c)).bind G = mI cs) (fun x_ => c.locs.length - x_.1) (0, F) (⟨Nat.zero_le _, j2⟩) (weak_mk rfl ⟨.refl _, .refl _, .refl _, .refl _, .refl _, .refl _, .refl _, .refl _, .refl _, .refl _, .refl _, .refl _, .refl _, trivial⟩ ⟨⟨rfl, _, rfl, rfl, fun _ _ _ => .refl _⟩, ⟨rfl, _, rfl, rfl, fun _ _ _ => .refl _⟩, ⟨rfl, _, rfl, rfl, fun _ _ _ => .refl _⟩, ⟨rfl, _, rfl, rfl, rfl⟩, ⟨rfl, _, rfl, rfl, rfl, rfl, rfl⟩, ⟨rfl, _, rfl, rfl, rfl, rfl, rfl⟩, ⟨rfl, _, rfl, rfl, fun _ _ _ => .refl _⟩, ⟨rfl, _, rfl, rfl, rfl⟩, ⟨rfl, _, rfl, rfl, fun _ _ _ => .refl _⟩, trivial⟩) (fun _ => Nat.le_refl 12) ?_
  rintro ⟨y, F⟩ ⟨l1, l2⟩
  simp only at l1 l2
  by_cases hyl : y < c.locs.length
  · obtain ⟨x, hy⟩ : ∃ x, c.locs[y]? = some x := ⟨c.locs[y], List.getElem?_eq_getElem hyl⟩
    obtain ⟨hd2, hlt2⟩ := drop_some hy
    have ey : decide ((y : Int) < (c.locs.length : Int)) = true := decide_eq_true (by omega)
    rw [hd2] at l2
    simp only [locGo] at l2
    cases ha : addOK F x with
    | false =>
      rw [if_neg (by rw [ha]; simp)] at l2
      have n2 : (!addOK F x) = true := by rw [ha]; rfl
      repeat' first
        | refine Z1 ?_ | refine Z2 ?_ | refine Z5 ?_ | refine Yp (add_ok (F := F) (i := 10) (j := 9) rfl rfl x 1) ?_ | refine Ze ?_ | refine ret2 ?_ | refine Zo ?_ | refine ok_seq ?_ | refine Zp ?_ | refine ok_block ?_ | refine ok_skip ?_
        | refine ok_ret ?_ | refine x_normal_then ?_ | refine x_ret_then ?_ | refine x_ret_block ?_
      exact leafF l2
    | true =>
      have n2 : (!addOK F x) = false := by rw [ha]; rfl
      rw [if_pos ha] at l2
      repeat' first
        | refine Z1 ?_ | refine Z2 ?_ | refine Z5 ?_ | refine Yp (add_ok (F := F) (i := 10) (j := 9) rfl rfl x 1) ?_ | refine Ze ?_ | refine Zf ?_ | refine Zo ?_ | refine ok_seq ?_ | refine ok_reg ?_ | refine Zp ?_ | refine Zq ?_
        | refine ok_block ?_ | refine ok_skip ?_ | refine x_normal_then ?_ | refine x_normal_block ?_
      exact ⟨(y + 1, sput F x 1), ⟨hlt2, l2⟩, by (try simp only); omega, low_mk (Nat.le_of_ble_eq_true rfl) ⟨⟨rfl, rfl⟩, ⟨rfl, rfl⟩, ⟨rfl, rfl⟩, ⟨rfl, rfl⟩, ⟨rfl, rfl⟩, ⟨rfl, rfl⟩, ⟨rfl, rfl⟩, ⟨rfl, rfl⟩, ⟨rfl, rfl⟩, ⟨rfl, rfl⟩, ⟨rfl, rfl⟩, ⟨rfl, rfl⟩, ⟨rfl, rfl⟩, trivial⟩ ⟨⟨rfl, rfl⟩, ⟨rfl, rfl⟩, ⟨rfl, rfl⟩, ⟨rfl, smap_low (fun _ => rfl) _⟩, ⟨rfl, blt_lt rfl, im2_low _ _ _⟩, ⟨rfl, blt_lt rfl, im2_low _ _ _⟩, ⟨rfl, rfl⟩, ⟨rfl, smap_low (fun _ => rfl) _⟩, ⟨rfl, rfl⟩, trivial⟩⟩
  have ey : decide ((y : Int) < (c.locs.length : Int)) = false := decide_eq_false (by omega)
  rw [List.drop_eq_nil_of_le (by omega)] at l2
  have l2 : (k2 cs k Z B c F).bind G = mI cs := l2
  unfold k2 at l2
  repeat' first
    | refine Z1 ?_ | refine Z2 ?_ | refine Z5 ?_ | refine Zd ?_ | refine Zo ?_ | refine ok_seq ?_ | refine Zq ?_ | refine ok_block ?_ | refine ok_exit ?_ | refine x_normal_then ?_ | refine x_exit_here ?_ | refine Zv ?_
  refine ok_for (ι := Nat) (fun x => envL [(1, .ref 0 0), (4, .ref 2 0), (5, .mp 3), (52, .d (.im (cs.map eCls))), (53, vi cs.length), (54, vi k), (6, vi k), (7, .ref 8 0), (8, .ref 10 0), (9, .fn 42 [.ref 10 0]), (16, vi c.mems.length), (161, .d (.im (c.mems.map eNum))), (162, vi c.mems.length), (163, vi x)]) (fun x => stL [some (.var [.d (.im (cs.map eCls))]), some (.var [.sl 4 6 0 Z.length, .sl 5 7 0 B.length]), some (.var [.ref 1 0]), some (.map .string (smap vb (sput N c.name true))), some (.row 6 3 1 (im2 eNum Z)), some (.row 7 3 1 (im2 eNum B)), none, none, some (.var ((eCls c).map .d)), some (.map .string (smap vi F)), some (.var [.mp 9]), none]) (fun x => x ≤ c.mems.length ∧ (c.mems.drop x).all valI = c.mems.all valI) (fun x => c.mems.length - x) 0 (⟨Nat.zero_le _, rfl⟩) (weak_mk rfl ⟨.refl _, .refl _, .refl _, .refl _, .refl _, .refl _, .refl _, .refl _, .refl _, .refl _, .refl _, .refl _, .refl _, .refl _, trivial⟩ ⟨⟨rfl, _, rfl, rfl, fun _ _ _ => .refl _⟩, ⟨rfl, _, rfl, rfl, fun _ _ _ => .refl _⟩, ⟨rfl, _, rfl, rfl, fun _ _ _ => .refl _⟩, ⟨rfl, _, rfl, rfl, rfl⟩, ⟨rfl, _, rfl, rfl, rfl, rfl, rfl⟩, ⟨rfl, _, rfl, rfl, rfl, rfl, rfl⟩, ⟨rfl, _, rfl, rfl, fun _ _ _ => .refl _⟩, ⟨rfl, _, rfl, rfl, rfl⟩, ⟨rfl, _, rfl, rfl, fun _ _ _ => .refl _⟩, trivial⟩) (fun _ => Nat.le_refl 12) ?_
  rintro y ⟨m1, m2⟩
  by_cases hym : y < c.mems.length
  · obtain ⟨v, hy⟩ : ∃ v, c.mems[y]? = some v := ⟨c.mems[y], List.getElem?_eq_getElem hym⟩
    obtain ⟨hd2, hlt2⟩ := drop_some hy
    have ey : decide ((y : Int) < (c.mems.length : Int)) = true := decide_eq_true (by omega)
    rw [hd2, List.all_cons] at m2
    cases hv : valI v with
    | false =>
      rw [hv] at m2
      have m2 : false = c.mems.all valI := m2
      rw [if_pos m2.symm] at l2
      have n2 : (!valI v) = true := by rw [hv]; rfl
      repeat' first
        | refine Z1 ?_ | refine Z2 ?_ | refine Z5 ?_ | refine Zc (val_ok v) ?_ | refine Ze ?_ | refine ret2 ?_ | refine Zo ?_ | refine ok_seq ?_ | refine Zp ?_ | refine ok_block ?_ | refine ok_skip ?_ | refine ok_ret ?_
        | refine x_normal_then ?_ | refine x_ret_then ?_ | refine x_ret_block ?_
      exact leafF l2
    | true =>
      rw [hv, Bool.true_and] at m2
      have n2 : (!valI v) = false := by rw [hv]; rfl
      repeat' first
        | refine Z1 ?_ | refine Z2 ?_ | refine Z5 ?_ | refine Zc (val_ok v) ?_ | refine Ze ?_ | refine Zf ?_ | refine Zo ?_ | refine ok_seq ?_ | refine ok_reg ?_ | refine Zp ?_ | refine Zq ?_ | refine ok_block ?_ | refine ok_skip ?_
        | refine x_normal_then ?_ | refine x_normal_block ?_
      exact ⟨y + 1, ⟨hlt2, m2⟩, by (try simp only); omega, low_mk (Nat.le_of_ble_eq_true rfl) ⟨⟨rfl, rfl⟩, ⟨rfl, rfl⟩, ⟨rfl, rfl⟩, ⟨rfl, rfl⟩, ⟨rfl, rfl⟩, ⟨rfl, rfl⟩, ⟨rfl, rfl⟩, ⟨rfl, rfl⟩, ⟨rfl, rfl⟩, ⟨rfl, rfl⟩, ⟨rfl, rfl⟩, ⟨rfl, rfl⟩, ⟨rfl, rfl⟩, ⟨rfl, rfl⟩, trivial⟩ ⟨⟨rfl, rfl⟩, ⟨rfl, rfl⟩, ⟨rfl, rfl⟩, ⟨rfl, smap_low (fun _ => rfl) _⟩, ⟨rfl, blt_lt rfl, im2_low _ _ _⟩, ⟨rfl, blt_lt rfl, im2_low _ _ _⟩, ⟨rfl, rfl⟩, ⟨rfl, smap_low (fun _ => rfl) _⟩, ⟨rfl, rfl⟩, trivial⟩⟩
  have ey : decide ((y : Int) < (c.mems.length : Int)) = false := decide_eq_false (by omega)
  rw [List.drop_eq_nil_of_le (by omega)] at m2
  have m2 : true = c.mems.all valI := m2
  rw [if_neg (by rw [← m2]; simp)] at l2
  repeat' first
    | refine Z1 ?_ | refine Z2 ?_ | refine Z5 ?_ | refine Zd ?_ | refine Zo ?_ | refine ok_seq ?_ | refine Zq ?_ | refine ok_block ?_ | refine ok_exit ?_ | refine x_normal_then ?_ | refine x_exit_here ?_ | refine Zv ?_
  refine ok_for (ι := Nat × Int) (fun x_ => envL [(1, .ref 0 0), (4, .ref 2 0), (5, .mp 3), (52, .d (.im (cs.map eCls))), (53, vi cs.length), (54, vi k), (6, vi k), (7, .ref 8 0), (8, .ref 10 0), (9, .fn 42 [.ref 10 0]), (16, vi x_.2), (172, .d (.im (c.insts.map eNum))), (173, vi c.insts.length), (174, vi x_.1)]) (fun x_ => stL [some (.var [.d (.im (cs.map eCls))]), some (.var [.sl 4 6 0 Z.length, .sl 5 7 0 B.length]), some (.var [.ref 1 0]), some (.map .string (smap vb (sput N c.name true))), some (.row 6 3 1 (im2 eNum Z)), some (.row 7 3 1 (im2 eNum B)), none, none, some (.var ((eCls c).map .d)), some (.map .string (smap vi F)), some (.var [.mp 9]), none]) (fun x_ => x_.1 ≤ c.insts.length ∧ 0 ≤ x_.2 ∧ x_.2 ≤ 1000 + 20000 * (x_.1 : Int) ∧ (∀ g ∈ c.insts.take x_.1, 0 ≤ g ∧ g < (k : Int)) ∧ ((instGo k Z x_.2 (c.insts.drop x_.1)).bind (k3 cs c B F)).bind G = mI cs) (fun x_ => c.insts.length - x_.1) (0, (c.mems.length : Int)) (⟨Nat.zero_le _, by simp only; omega, by simp only; omega, by simp, l2⟩) (weak_mk rfl ⟨.refl _, .refl _, .refl _, .refl _, .refl _, .refl _, .refl _, .refl _, .refl _, .refl _, .refl _, .refl _, .refl _, .refl _, trivial⟩ ⟨⟨rfl, _, rfl, rfl, fun _ _ _ => .refl _⟩, ⟨rfl, _, rfl, rfl, fun _ _ _ => .refl _⟩, ⟨rfl, _, rfl, rfl, fun _ _ _ => .refl _⟩, ⟨rfl, _, rfl, rfl, rfl⟩, ⟨rfl, _, rfl, rfl, rfl, rfl, rfl⟩, ⟨rfl, _, rfl, rfl, rfl, rfl, rfl⟩, ⟨rfl, _, rfl, rfl, fun _ _ _ => .refl _⟩, ⟨rfl, _, rfl, rfl, rfl⟩, ⟨rfl, _, rfl, rfl, fun _ _ _ => .refl _⟩, trivial⟩) (fun _ => Nat.le_refl 12) ?_
  rintro ⟨y, n⟩ ⟨o1, o2, o3, o4, o5⟩
  simp only at o1 o2 o3 o4 o5
  by_cases hyi : y < c.insts.length
  · obtain ⟨g, hy⟩ : ∃ g, c.insts[y]? = some g := ⟨c.insts[y], List.getElem?_eq_getElem hyi⟩
    obtain ⟨hd2, hlt2⟩ := drop_some hy
    have ey : decide ((y : Int) < (c.insts.length : Int)) = true := decide_eq_true (by omega)
    rw [hd2] at o5
    simp only [instGo] at o5
    by_cases g1 : g < 0
    · have d1 : decide (g < 0) = true := decide_eq_true g1
      rw [if_pos (.inl g1)] at o5
      repeat' first
        | refine Z1 ?_ | refine Z2 ?_ | refine Z5 ?_ | refine Z9 ?_ | refine Ze ?_ | refine Zl ?_ | refine ret2 ?_ | refine Zo ?_ | refine ok_seq ?_ | refine Zp ?_ | refine ok_block ?_ | refine ok_skip ?_ | refine ok_ret ?_
        | refine x_normal_then ?_ | refine x_ret_then ?_ | refine x_ret_block ?_
      exact leafF o5
    have d1 : decide (g < 0) = false := decide_eq_false g1
    by_cases g2 : (k : Int) ≤ g
    · have d2 : decide ((k : Int) ≤ g) = true := decide_eq_true g2
      rw [if_pos (.inr g2)] at o5
      repeat' first
        | refine Z1 ?_ | refine Z2 ?_ | refine Z5 ?_ | refine Z7 ?_ | refine Ze ?_ | refine Zh ?_ | refine Zi ?_ | refine Zm ?_ | refine ret2 ?_ | refine Zo ?_ | refine ok_seq ?_ | refine Zp ?_ | refine ok_block ?_ | refine ok_skip ?_
        | refine ok_ret ?_ | refine x_normal_then ?_ | refine x_ret_then ?_ | refine x_ret_block ?_
      exact leafF o5
    have d2 : decide ((k : Int) ≤ g) = false := decide_eq_false g2
    rw [if_neg (fun h => h.elim g1 g2)] at o5
    obtain ⟨gn, hgn⟩ : ∃ gn : Nat, g = (gn : Int) := ⟨g.toNat, by omega⟩
    have hgl : gn < Z.length := by omega
    have hz : Z[gn]? = some Z[gn] := List.getElem?_eq_getElem hgl
    have hzb := i4 _ (List.mem_of_getElem? hz)
    have hr : (im2 eNum Z)[gn]? = some [vi Z[gn]] := im2_get hz
    rw [hgn, Int.toNat_natCast, hz] at o5
    simp only [Option.getD_some] at o5
    generalize Z[gn] = z at hz hzb hr o5
    have o4' : ∀ g ∈ c.insts.take (y + 1), 0 ≤ g ∧ g < (k : Int) := by
      intro g' hg'
      rw [take_push hy] at hg'
      rcases List.mem_append.1 hg' with h | h
      · exact o4 g' h
      · simp at h; subst h; omega
    repeat' first
      | refine Z1 ?_ | refine Z2 ?_ | refine Z3 ?_ | refine Z5 ?_ | refine Z7 ?_ | refine nil_check ?_ | refine Yf (n := g) gn hgn hgl ?_ | refine Ye hr ?_ | refine Ze ?_ | refine Zf ?_ | refine Zh ?_ | refine Zi ?_ | refine Zm ?_
      | refine Zo ?_ | refine ok_seq ?_ | refine ok_reg ?_ | refine Zp ?_ | refine Zq ?_ | refine ok_block ?_ | refine ok_skip ?_ | refine x_normal_then ?_ | refine x_normal_block ?_
    exact ⟨(y + 1, n + z), ⟨hlt2, by simp only; omega, by simp only; omega, o4', o5⟩, by (try simp only); omega, low_mk (Nat.le_of_ble_eq_true rfl) ⟨⟨rfl, rfl⟩, ⟨rfl, rfl⟩, ⟨rfl, rfl⟩, ⟨rfl, rfl⟩, ⟨rfl, rfl⟩, ⟨rfl, rfl⟩, ⟨rfl, rfl⟩, ⟨rfl, rfl⟩, ⟨rfl, rfl⟩, ⟨rfl, rfl⟩, ⟨rfl, rfl⟩, ⟨rfl, rfl⟩, ⟨rfl, rfl⟩, ⟨rfl, rfl⟩, trivial⟩ ⟨⟨rfl, rfl⟩, ⟨rfl, rfl⟩, ⟨rfl, rfl⟩, ⟨rfl, smap_low (fun _ => rfl) _⟩, ⟨rfl, blt_lt rfl, im2_low _ _ _⟩, ⟨rfl, blt_lt rfl, im2_low _ _ _⟩, ⟨rfl, rfl⟩, ⟨rfl, smap_low (fun _ => rfl) _⟩, ⟨rfl, rfl⟩, trivial⟩⟩
  have ey : decide ((y : Int) < (c.insts.length : Int)) = false := decide_eq_false (by omega)
  rw [List.drop_eq_nil_of_le (by omega)] at o5
  rw [List.take_of_length_le (by omega)] at o4
  have o5 : (k3 cs c B F n).bind G = mI cs := o5
  unfold k3 at o5
  repeat' first
    | refine Z1 ?_ | refine Z2 ?_ | refine Z5 ?_ | refine Yd (kk := .string) ?_ | refine Yq ?_ | refine Zd ?_ | refine Zo ?_ | refine ok_seq ?_ | refine Zq ?_ | refine ok_block ?_ | refine ok_exit ?_ | refine x_normal_then ?_
    | refine x_exit_here ?_ | refine Zv ?_
  refine ok_turn (turn_ownt 21 9 1 rfl) ?_
  rw [Option.bind_assoc] at o5
  generalize hG2 : (fun u : Unit => (((growI c.body).bind (k4 c B n)).bind G)) = G2 at o5
  have hbl : c.body.length ≤ 30000 := by omega
  have hwb : ∀ s ∈ c.body, wSm s ≤ 1048576 := fun s hs => by have := wL_mem (w := wSm) hs; omega
  refine ok_forR (ι := Bx) (bE cs c k n) (bS cs c (sput N c.name true) Z B F) (bInv cs c F G2 (mI cs)) (fun x => c.body.length - x.1) (0, [], 0, []) ?_ Turn.refl (lowR_mk [(15, 14)] rfl rfl rfl ⟨⟨rfl, rfl⟩, ⟨rfl, rfl⟩, ⟨rfl, rfl⟩, ⟨rfl, rfl⟩, ⟨rfl, rfl⟩, ⟨rfl, rfl⟩, ⟨rfl, rfl⟩, ⟨rfl, rfl⟩, ⟨rfl, rfl⟩, ⟨rfl, rfl⟩, ⟨rfl, rfl⟩, ⟨rfl, rfl⟩, ⟨rfl, rfl⟩, ⟨rfl, rfl⟩, ⟨rfl, rfl⟩, ⟨rfl, rfl⟩, ⟨rfl, rfl⟩, trivial⟩ ⟨⟨rfl, rfl⟩, ⟨rfl, rfl⟩, ⟨rfl, rfl⟩, ⟨by first | exact renO_map _ (fun _ => rfl) | rfl, smap_low (fun _ => rfl) _⟩, ⟨renO_row rfl (by first | exact im2_ren _ _ _ | rfl), blt_lt rfl, im2_low _ _ _⟩, ⟨renO_row rfl (by first | exact im2_ren _ _ _ | rfl), blt_lt rfl, im2_low _ _ _⟩, ⟨rfl, rfl⟩, ⟨by first | exact renO_map _ (fun _ => rfl) | rfl, smap_low (fun _ => rfl) _⟩, ⟨rfl, rfl⟩, ⟨by first | exact renO_map _ (fun _ => rfl) | rfl, smap_low (fun _ => rfl) _⟩, ⟨rfl, rfl⟩, ⟨renO_row rfl (by first | exact im2_ren _ _ _ | rfl), blt_lt rfl, im2_low _ _ _⟩, trivial⟩) ?_
  · exact ⟨Nat.zero_le _, Nat.le_refl _, Nat.le_refl _, fun s => ⟨Int.le_refl _, Int.le_refl _⟩, by simp, o5⟩
  intro x hx6
  by_cases hxl : x.1 < c.body.length
  · refine body_round hcl hlt hbl hwb (by omega) (by omega) o4 ?_ x hx6 hxl
    intro hM env σ h2 h3
    repeat' first
      | refine ret2 (x := .d (.s (.pointer none))) (y := vb false) (hx := by rw [h2]; rfl) (hy := by rw [h3]; rfl) ?_ | refine x_ret_then ?_ | refine x_ret_block ?_
    exact leafF hM
  obtain ⟨q, J, m, W⟩ := x
  obtain ⟨p1, p2, p3, p4, p5, p6⟩ := hx6
  simp only at p1 p2 p3 p4 p5 p6 hxl
  have hqe : q = c.body.length := by omega
  subst hqe
  rw [List.drop_eq_nil_of_le (Nat.le_refl _)] at p6
  rw [List.take_of_length_le (Nat.le_refl _)] at p5
  have p6 : G2 () = mI cs := p6
  rw [← hG2] at p6
  have ey : decide ((c.body.length : Int) < (c.body.length : Int)) = false := decide_eq_false (by omega)
  have hgr := grow_ok c.body (by omega)
  unfold bE bS
  dsimp only
  rcases hgw : growI c.body with _ | R
  · rw [hgw] at p6
    simp only [growR, hgw] at hgr
    have n1 : (!false) = true := rfl
    repeat' first
      | refine Z1 ?_ | refine Z2 ?_ | refine Z5 ?_ | refine Zc (hgr) ?_ | refine ret2 ?_ | refine Zo ?_ | refine ok_seq ?_ | refine Zp ?_ | refine Zq ?_ | refine ok_exit ?_ | refine ok_ret ?_ | refine x_normal_then ?_ | refine x_exit_here ?_
      | refine Zv ?_ | refine x_ret_then ?_ | refine x_ret_block ?_
    exact leafF p6
  rw [hgw] at p6
  simp only [growR, hgw] at hgr
  have p6 : (k4 c B n R).bind G = mI cs := p6
  have n1 : (!true) = false := rfl
  have hgs : ∀ s ∈ c.body, goodS B c.insts s := by
    intro s hs h3
    obtain ⟨g1, g2⟩ := p5 s hs h3
    have hpl : s.pos.toNat < c.insts.length := by omega
    have hig : c.insts[s.pos.toNat]? = some c.insts[s.pos.toNat] := List.getElem?_eq_getElem hpl
    obtain ⟨g3, g4⟩ := o4 _ (List.mem_of_getElem? hig)
    exact ⟨g1, _, _, hig, g3, List.getElem?_eq_getElem (by omega)⟩
  obtain ⟨gg, gn⟩ := grow_good hgs hgw
  have hcb := costL_le (I := c.insts) i5 R
  have gn2 : brsN R ≤ 1048576 := by omega
  unfold k4 at p6
  by_cases v1 : 20000 < n
  · have w1 : decide (20000 < n) = true := decide_eq_true v1
    rw [if_pos (.inl v1)] at p6
    repeat' first
      | refine Z1 ?_ | refine Z2 ?_ | refine Z5 ?_ | refine Z9 ?_ | refine Zc (hgr) ?_ | refine Yq ?_ | refine Yp (cost_at (z := Z.length) i5 gn2 gg rfl rfl rfl rfl rfl rfl) ?_ | refine Zl ?_ | refine ret2 ?_ | refine Zo ?_ | refine ok_seq ?_
      | refine Zp ?_ | refine Zq ?_ | refine ok_exit ?_ | refine ok_skip ?_ | refine ok_ret ?_ | refine x_normal_then ?_ | refine x_exit_here ?_ | refine Zv ?_ | refine x_ret_then ?_ | refine x_ret_block ?_
    exact leafF p6
  have w1 : decide (20000 < n) = false := decide_eq_false v1
  by_cases v2 : 400000 < costL B c.insts R
  · have w2 : decide (400000 < costL B c.insts R) = true := decide_eq_true v2
    rw [if_pos (.inr v2)] at p6
    repeat' first
      | refine Z1 ?_ | refine Z2 ?_ | refine Z5 ?_ | refine Z7 ?_ | refine Zc (hgr) ?_ | refine Yq ?_ | refine Yp (cost_at (z := Z.length) i5 gn2 gg rfl rfl rfl rfl rfl rfl) ?_ | refine Zh ?_ | refine Zi ?_ | refine Zm ?_ | refine ret2 ?_
      | refine Zo ?_ | refine ok_seq ?_ | refine Zp ?_ | refine Zq ?_ | refine ok_exit ?_ | refine ok_skip ?_ | refine ok_ret ?_ | refine x_normal_then ?_ | refine x_exit_here ?_ | refine Zv ?_ | refine x_ret_then ?_ | refine x_ret_block ?_
    exact leafF p6
  have w2 : decide (400000 < costL B c.insts R) = false := decide_eq_false v2
  rw [if_neg (fun h => h.elim v1 v2)] at p6
  have p6 : G (n, costL B c.insts R) = mI cs := p6
  rw [← hG] at p6
  repeat' first
    | refine Z1 ?_ | refine Z2 ?_ | refine Z5 ?_ | refine Z7 ?_ | refine Zc (hgr) ?_ | refine Yq ?_ | refine Yp (cost_at (z := Z.length) i5 gn2 gg rfl rfl rfl rfl rfl rfl) ?_ | refine Zh ?_ | refine Zi ?_ | refine Zm ?_ | refine Zo ?_
    | refine ok_seq ?_ | refine Zq ?_ | refine ok_exit ?_ | refine ok_skip ?_ | refine x_normal_then ?_ | refine x_exit_here ?_ | refine Zv ?_
  refine ok_drawE (fun j => j = 1 ∨ j = 2) [6, 7, 10] X_mixed (by decide +kernel) ?_
  repeat' first
    | refine Wl (i := 2) rfl (.inr rfl) ?_ | refine Wr (i := 1) rfl (.inl rfl) ?_ | refine Wa ?_ | refine Wn ?_
  refine We (Yw (sz := 1) (rows := [[vi n]]) (n := 17) ⟨rfl, rfl⟩) (.inr (fun j hj => by rw [St.obj_alloc, if_neg (by show ¬ j = 17; omega)])) ?_
  refine We (app4 (e := eNum) (l := Z) (y := n) (i := 4) (h := 6) (k := 17) (v := 17) rfl rfl (fun _ => rfl) ⟨rfl, rfl⟩) (.inr (fun j hj => by rw [obj_bumpSet, if_neg (by omega)])) ?_
  repeat' first
    | refine Wa ?_ | refine Wn ?_
  refine We (Yt (i := 1) (m := [.sl 4 18 0 (Z ++ [n]).length, .sl 5 7 0 B.length]) rfl ⟨rfl, rfl⟩) (.inl rfl) ?_
  refine Wx ?_
  refine ok_drawE (fun j => j = 1 ∨ j = 2) [6, 7, 10] X_mixed (by decide +kernel) ?_
  repeat' first
    | refine Wl (i := 2) rfl (.inr rfl) ?_ | refine Wr (i := 1) rfl (.inl rfl) ?_ | refine Wa ?_ | refine Wn ?_
  refine We (Yw (sz := 1) (rows := [[vi (costL B c.insts R)]]) (n := 19) ⟨rfl, rfl⟩) (.inr (fun j hj => by rw [St.obj_alloc, if_neg (by show ¬ j = 19; omega)])) ?_
  refine We (app4 (e := eNum) (l := B) (y := costL B c.insts R) (i := 5) (h := 7) (k := 19) (v := 19) rfl rfl (fun _ => rfl) ⟨rfl, rfl⟩) (.inr (fun j hj => by rw [obj_bumpSet, if_neg (by omega)])) ?_
  repeat' first
    | refine Wa ?_ | refine Wn ?_
  refine We (Yt (i := 1) (m := [.sl 4 18 0 (Z ++ [n]).length, .sl 5 20 0 (B ++ [costL B c.insts R]).length]) rfl ⟨rfl, rfl⟩) (.inl rfl) ?_
  first | refine Wx ?_ | refine Wy ?_
  have hbz : bdZ (Z ++ [n]) := by
    intro z hz
    rcases List.mem_append.1 hz with h | h
    · exact i4 z h
    · simp only [List.mem_singleton] at h; subst h; omega
  have hbb : bdB (B ++ [costL B c.insts R]) := by
    intro z hz
    rcases List.mem_append.1 hz with h | h
    · exact i5 z h
    · simp only [List.mem_singleton] at h; subst h; omega
  repeat' first
    | refine Z1 ?_ | refine Z2 ?_ | refine Z5 ?_ | refine Zf ?_ | refine ok_reg ?_ | refine x_normal_then ?_ | refine x_normal_block ?_
  exact ⟨(k + 1, sput N c.name true, Z ++ [n], B ++ [costL B c.insts R]), ⟨hlt, by simp only [List.length_append, List.length_singleton]; omega, by simp only [List.length_append, List.length_singleton]; omega, hbz, hbb, p6⟩, by (try simp only); omega, lowR_mk [(6, 18), (7, 20)] rfl rfl rfl ⟨⟨rfl, rfl⟩, ⟨rfl, rfl⟩, ⟨rfl, rfl⟩, ⟨rfl, rfl⟩, ⟨rfl, rfl⟩, ⟨rfl, rfl⟩, trivial⟩ ⟨⟨rfl, rfl⟩, ⟨rfl, rfl⟩, ⟨rfl, rfl⟩, ⟨by first | exact renO_map _ (fun _ => rfl) | rfl, smap_low (fun _ => rfl) _⟩, ⟨renO_row rfl (by first | exact im2_ren _ _ _ | rfl), blt_lt rfl, im2_low _ _ _⟩, ⟨renO_row rfl (by first | exact im2_ren _ _ _ | rfl), blt_lt rfl, im2_low _ _ _⟩, trivial⟩⟩
end Go.Pm
/- The laws' size functions (printed by gen_sz.py). -/
set_option linter.unusedVariables false
set_option linter.unusedSimpArgs false
namespace Go.Pm
attribute [local irreducible] AR Ok inBlock andThen endQ aoper
set_option maxHeartbeats 1000000
open Go.Proofs

theorem szItem_ok (x : Itm) (left : Int) (h0 : 0 ≤ left) (h1 : left ≤ 1048576) (hd : dItm x) : PFun X 85 [.agg ((eItm x).map .d), vi left] (vi (subI left (wItm x))) := by
  have hd0 := hd
  have hd0 : x.name.size ≤ 9223372036854775807 := hd0
  refine pfun_of Tryd.func85 rfl (by decide) Tryd.ntmps85 Tryd.results85 (by simp) rfl rfl ?_
  by_cases hn0 : left - (x.name.size : Int) < 0
  · have en0 : decide (left - (x.name.size : Int) < 0) = true := decide_eq_true hn0
    repeat' first
      | refine Z1 ?_ | refine Z2 ?_ | refine Z5 ?_ | refine Zg ?_ | refine Zo ?_ | refine ok_seq ?_ | refine Zp ?_ | refine ok_ret ?_ | refine x_ret_then ?_ | refine Zt ?_
    exact ret_vi (by rw [subI_over (by simp only [wItm]; omega)])
  have en0 : decide (left - (x.name.size : Int) < 0) = false := decide_eq_false hn0
  repeat' first
    | refine Z1 ?_ | refine Z2 ?_ | refine Z5 ?_ | refine Zg ?_ | refine Zo ?_ | refine ok_seq ?_ | refine Zq ?_ | refine ok_skip ?_ | refine ok_ret ?_ | refine x_normal_then ?_ | refine Zt ?_
  exact ret_vi (by rw [subI_in (left := left) (n := wItm x) (by simp only [wItm]; omega)]; (simp only [wItm] <;> omega))

theorem szItemS_ok (l : List (Itm)) (left : Int) (h0 : 0 ≤ left) (h1 : left ≤ 1048576) (hd : dL (dItm) l) : PFun X 73 [.d (.im (l.map eItm)), vi left] (vi (subI left (wL (wItm) l))) := by
  obtain ⟨hd1, hd2⟩ := hd
  simp only [mx] at hd1
  refine pfun_of Tryd.func73 rfl (by decide) Tryd.ntmps73 Tryd.results73 (by simp) rfl rfl ?_
  by_cases hlt : left - (l.length : Int) < 0
  · have e1 : decide (left - (l.length : Int) < 0) = true := decide_eq_true hlt
    repeat' first
      | refine Z1 ?_ | refine Z2 ?_ | refine Z5 ?_ | refine Zd ?_ | refine Zg ?_ | refine Zo ?_ | refine ok_seq ?_ | refine Zp ?_ | refine ok_ret ?_ | refine x_ret_then ?_ | refine Zt ?_
    exact ret_vi (by rw [subI_over (by simp only [wL]; omega)])
  · have e1 : decide (left - (l.length : Int) < 0) = false := decide_eq_false hlt
    repeat' first
      | refine Z1 ?_ | refine Z2 ?_ | refine Z5 ?_ | refine Zd ?_ | refine Zg ?_ | refine Zo ?_ | refine ok_seq ?_ | refine Zq ?_ | refine ok_block ?_ | refine ok_skip ?_ | refine x_normal_then ?_
    refine ok_for (ι := Nat × Int) (fun x => envL [(0, .d (.im (l.map eItm))), (1, vi x.2), (4, vi 0), (5, vi x.1)]) (fun x => stL []) (fun x => x.1 ≤ l.length ∧ 0 ≤ x.2 ∧ x.2 ≤ left ∧ subI x.2 ((l.drop x.1).map (wItm)).sum = subI left (wL (wItm) l)) (fun x => l.length - x.1) (0, left - l.length) (⟨Nat.zero_le _, by simp only; omega, by simp only; omega, by simp only [List.drop_zero]; rw [subI_add (by omega)]; rfl⟩) (weak_mk rfl ⟨.refl _, .refl _, .refl _, .refl _, trivial⟩ trivial) (fun _ => Nat.le_refl 0) ?_
    rintro ⟨k, lf⟩ ⟨i1, i2, i3, i4⟩
    simp only at i1 i2 i3 i4
    rcases hx : l[k]? with _ | x
    · have hle := none_le hx
      have ek : decide ((k : Int) < (l.length : Int)) = false := decide_eq_false (by omega)
      rw [drop_none hx] at i4
      repeat' first
        | refine Z1 ?_ | refine Z2 ?_ | refine Z5 ?_ | refine Zd ?_ | refine Zo ?_ | refine ok_seq ?_ | refine Zq ?_ | refine ok_exit ?_ | refine ok_ret ?_ | refine x_normal_then ?_ | refine x_exit_here ?_ | refine Zv ?_ | refine Zt ?_
      exact ret_vi (by rw [← i4]; simp [subI]; omega)
    · obtain ⟨hdr, hlt2⟩ := drop_some hx
      have ek : decide ((k : Int) < (l.length : Int)) = true := decide_eq_true (by omega)
      rw [hdr, List.map_cons, List.sum_cons] at i4
      have hdx := hd2 x (List.mem_of_getElem? hx)
      by_cases hn : subI lf (wItm x) < 0
      · have en : decide (subI lf (wItm x) < 0) = true := decide_eq_true hn
        obtain ⟨hn1, hn2⟩ := subI_neg hn
        repeat' first
          | refine Z1 ?_ | refine Z2 ?_ | refine Z5 ?_ | refine Zc (szItem_ok x lf i2 (by omega) hdx) ?_ | refine Zd ?_ | refine Ze ?_ | refine Zo ?_ | refine ok_seq ?_ | refine Zp ?_ | refine ok_block ?_ | refine ok_skip ?_ | refine ok_ret ?_
          | refine x_normal_then ?_ | refine x_ret_then ?_ | refine x_ret_block ?_ | refine Zt ?_
        exact ret_vi (by rw [← i4, subI_over (by omega)])
      · have en : decide (subI lf (wItm x) < 0) = false := decide_eq_false hn
        obtain ⟨hn1, hn2⟩ := subI_pos hn i2
        repeat' first
          | refine Z1 ?_ | refine Z2 ?_ | refine Z5 ?_ | refine Zc (szItem_ok x lf i2 (by omega) hdx) ?_ | refine Zd ?_ | refine Ze ?_ | refine Zf ?_ | refine Zo ?_ | refine ok_seq ?_ | refine ok_reg ?_ | refine Zp ?_ | refine Zq ?_
          | refine ok_block ?_ | refine ok_skip ?_ | refine x_normal_then ?_ | refine x_normal_block ?_
        exact ⟨(k + 1, subI lf (wItm x)), ⟨by simp only; omega, by simp only; omega, by simp only; omega, by simp only; rw [hn2, subI_add hn1]; exact i4⟩, by (try simp only); omega, low_mk (Nat.zero_le _) ⟨⟨rfl, rfl⟩, ⟨rfl, rfl⟩, ⟨rfl, rfl⟩, ⟨rfl, rfl⟩, trivial⟩ trivial⟩

theorem szItemSS_ok (l : List (List Itm)) (left : Int) (h0 : 0 ≤ left) (h1 : left ≤ 1048576) (hd : dL (dL dItm) l) : PFun X 74 [.d (.im (l.map eItms)), vi left] (vi (subI left (wL (wL wItm) l))) := by
  obtain ⟨hd1, hd2⟩ := hd
  simp only [mx] at hd1
  refine pfun_of Tryd.func74 rfl (by decide) Tryd.ntmps74 Tryd.results74 (by simp) rfl rfl ?_
  by_cases hlt : left - (l.length : Int) < 0
  · have e1 : decide (left - (l.length : Int) < 0) = true := decide_eq_true hlt
    repeat' first
      | refine Z1 ?_ | refine Z2 ?_ | refine Z5 ?_ | refine Zd ?_ | refine Zg ?_ | refine Zo ?_ | refine ok_seq ?_ | refine Zp ?_ | refine ok_ret ?_ | refine x_ret_then ?_ | refine Zt ?_
    exact ret_vi (by rw [subI_over (by simp only [wL]; omega)])
  · have e1 : decide (left - (l.length : Int) < 0) = false := decide_eq_false hlt
    repeat' first
      | refine Z1 ?_ | refine Z2 ?_ | refine Z5 ?_ | refine Zd ?_ | refine Zg ?_ | refine Zo ?_ | refine ok_seq ?_ | refine Zq ?_ | refine ok_block ?_ | refine ok_skip ?_ | refine x_normal_then ?_
    refine ok_for (ι := Nat × Int) (fun x => envL [(0, .d (.im (l.map eItms))), (1, vi x.2), (4, vi 0), (5, vi x.1)]) (fun x => stL []) (fun x => x.1 ≤ l.length ∧ 0 ≤ x.2 ∧ x.2 ≤ left ∧ subI x.2 ((l.drop x.1).map (wL wItm)).sum = subI left (wL (wL wItm) l)) (fun x => l.length - x.1) (0, left - l.length) (⟨Nat.zero_le _, by simp only; omega, by simp only; omega, by simp only [List.drop_zero]; rw [subI_add (by omega)]; rfl⟩) (weak_mk rfl ⟨.refl _, .refl _, .refl _, .refl _, trivial⟩ trivial) (fun _ => Nat.le_refl 0) ?_
    rintro ⟨k, lf⟩ ⟨i1, i2, i3, i4⟩
    simp only at i1 i2 i3 i4
    rcases hx : l[k]? with _ | x
    · have hle := none_le hx
      have ek : decide ((k : Int) < (l.length : Int)) = false := decide_eq_false (by omega)
      rw [drop_none hx] at i4
      repeat' first
        | refine Z1 ?_ | refine Z2 ?_ | refine Z5 ?_ | refine Zd ?_ | refine Zo ?_ | refine ok_seq ?_ | refine Zq ?_ | refine ok_exit ?_ | refine ok_ret ?_ | refine x_normal_then ?_ | refine x_exit_here ?_ | refine Zv ?_ | refine Zt ?_
      exact ret_vi (by rw [← i4]; simp [subI]; omega)
    · obtain ⟨hdr, hlt2⟩ := drop_some hx
      have ek : decide ((k : Int) < (l.length : Int)) = true := decide_eq_true (by omega)
      rw [hdr, List.map_cons, List.sum_cons] at i4
      have hdx := hd2 x (List.mem_of_getElem? hx)
      by_cases hn : subI lf (wL wItm x) < 0
      · have en : decide (subI lf (wL wItm x) < 0) = true := decide_eq_true hn
        obtain ⟨hn1, hn2⟩ := subI_neg hn
        repeat' first
          | refine Z1 ?_ | refine Z2 ?_ | refine Z5 ?_ | refine Zc (szItemS_ok x lf i2 (by omega) hdx) ?_ | refine Zd ?_ | refine Ze ?_ | refine Zo ?_ | refine ok_seq ?_ | refine Zp ?_ | refine ok_block ?_ | refine ok_skip ?_
          | refine ok_ret ?_ | refine x_normal_then ?_ | refine x_ret_then ?_ | refine x_ret_block ?_ | refine Zt ?_
        exact ret_vi (by rw [← i4, subI_over (by omega)])
      · have en : decide (subI lf (wL wItm x) < 0) = false := decide_eq_false hn
        obtain ⟨hn1, hn2⟩ := subI_pos hn i2
        repeat' first
          | refine Z1 ?_ | refine Z2 ?_ | refine Z5 ?_ | refine Zc (szItemS_ok x lf i2 (by omega) hdx) ?_ | refine Zd ?_ | refine Ze ?_ | refine Zf ?_ | refine Zo ?_ | refine ok_seq ?_ | refine ok_reg ?_ | refine Zp ?_ | refine Zq ?_
          | refine ok_block ?_ | refine ok_skip ?_ | refine x_normal_then ?_ | refine x_normal_block ?_
        exact ⟨(k + 1, subI lf (wL wItm x)), ⟨by simp only; omega, by simp only; omega, by simp only; omega, by simp only; rw [hn2, subI_add hn1]; exact i4⟩, by (try simp only); omega, low_mk (Nat.zero_le _) ⟨⟨rfl, rfl⟩, ⟨rfl, rfl⟩, ⟨rfl, rfl⟩, ⟨rfl, rfl⟩, trivial⟩ trivial⟩

theorem szStringS_ok (l : List (ByteArray)) (left : Int) (h0 : 0 ≤ left) (h1 : left ≤ 1048576) (hd : dL (dStr) l) : PFun X 31 [.d (.im (l.map eStr)), vi left] (vi (subI left (wL (wStr) l))) := by
  obtain ⟨hd1, hd2⟩ := hd
  simp only [mx] at hd1
  refine pfun_of Tryd.func31 rfl (by decide) Tryd.ntmps31 Tryd.results31 (by simp) rfl rfl ?_
  by_cases hlt : left - (l.length : Int) < 0
  · have e1 : decide (left - (l.length : Int) < 0) = true := decide_eq_true hlt
    repeat' first
      | refine Z1 ?_ | refine Z2 ?_ | refine Z5 ?_ | refine Zd ?_ | refine Zg ?_ | refine Zo ?_ | refine ok_seq ?_ | refine Zp ?_ | refine ok_ret ?_ | refine x_ret_then ?_ | refine Zt ?_
    exact ret_vi (by rw [subI_over (by simp only [wL]; omega)])
  · have e1 : decide (left - (l.length : Int) < 0) = false := decide_eq_false hlt
    repeat' first
      | refine Z1 ?_ | refine Z2 ?_ | refine Z5 ?_ | refine Zd ?_ | refine Zg ?_ | refine Zo ?_ | refine ok_seq ?_ | refine Zq ?_ | refine ok_block ?_ | refine ok_skip ?_ | refine x_normal_then ?_
    refine ok_for (ι := Nat × Int) (fun x => envL [(0, .d (.im (l.map eStr))), (1, vi x.2), (4, vi 0), (5, vi x.1)]) (fun x => stL []) (fun x => x.1 ≤ l.length ∧ 0 ≤ x.2 ∧ x.2 ≤ left ∧ subI x.2 ((l.drop x.1).map (wStr)).sum = subI left (wL (wStr) l)) (fun x => l.length - x.1) (0, left - l.length) (⟨Nat.zero_le _, by simp only; omega, by simp only; omega, by simp only [List.drop_zero]; rw [subI_add (by omega)]; rfl⟩) (weak_mk rfl ⟨.refl _, .refl _, .refl _, .refl _, trivial⟩ trivial) (fun _ => Nat.le_refl 0) ?_
    rintro ⟨k, lf⟩ ⟨i1, i2, i3, i4⟩
    simp only at i1 i2 i3 i4
    rcases hx : l[k]? with _ | x
    · have hle := none_le hx
      have ek : decide ((k : Int) < (l.length : Int)) = false := decide_eq_false (by omega)
      rw [drop_none hx] at i4
      repeat' first
        | refine Z1 ?_ | refine Z2 ?_ | refine Z5 ?_ | refine Zd ?_ | refine Zo ?_ | refine ok_seq ?_ | refine Zq ?_ | refine ok_exit ?_ | refine ok_ret ?_ | refine x_normal_then ?_ | refine x_exit_here ?_ | refine Zv ?_ | refine Zt ?_
      exact ret_vi (by rw [← i4]; simp [subI]; omega)
    · obtain ⟨hdr, hlt2⟩ := drop_some hx
      have ek : decide ((k : Int) < (l.length : Int)) = true := decide_eq_true (by omega)
      rw [hdr, List.map_cons, List.sum_cons] at i4
      have hdx := hd2 x (List.mem_of_getElem? hx)
      simp only [dStr, mx] at hdx
      simp only [wStr] at i4
      by_cases hn : lf - (x.size : Int) < 0
      · have en : decide (lf - (x.size : Int) < 0) = true := decide_eq_true hn
        have hn1 : lf < (x.size : Int) := by omega
        repeat' first
          | refine Z1 ?_ | refine Z2 ?_ | refine Z5 ?_ | refine Zd ?_ | refine Ze ?_ | refine Zg ?_ | refine Zo ?_ | refine ok_seq ?_ | refine Zp ?_ | refine ok_block ?_ | refine ok_skip ?_ | refine ok_ret ?_ | refine x_normal_then ?_
          | refine x_ret_then ?_ | refine x_ret_block ?_ | refine Zt ?_
        exact ret_vi (by rw [← i4, subI_over (by omega)])
      · have en : decide (lf - (x.size : Int) < 0) = false := decide_eq_false hn
        have hn1 : (x.size : Int) ≤ lf := by omega
        repeat' first
          | refine Z1 ?_ | refine Z2 ?_ | refine Z5 ?_ | refine Zd ?_ | refine Ze ?_ | refine Zf ?_ | refine Zg ?_ | refine Zo ?_ | refine ok_seq ?_ | refine ok_reg ?_ | refine Zp ?_ | refine Zq ?_ | refine ok_block ?_ | refine ok_skip ?_
          | refine x_normal_then ?_ | refine x_normal_block ?_
        exact ⟨(k + 1, lf - (x.size : Int)), ⟨by simp only; omega, by simp only; omega, by simp only; omega, by simp only; rw [subI_add hn1]; exact i4⟩, by (try simp only); omega, low_mk (Nat.zero_le _) ⟨⟨rfl, rfl⟩, ⟨rfl, rfl⟩, ⟨rfl, rfl⟩, ⟨rfl, rfl⟩, trivial⟩ trivial⟩

theorem szSlot_ok (x : Slt) (left : Int) (h0 : 0 ≤ left) (h1 : left ≤ 1048576) (hd : dSlt x) : PFun X 53 [.agg ((eSlt x).map .d), vi left] (vi (subI left (wSlt x))) := by
  have hd0 := hd
  have hd0 : x.name.size ≤ 9223372036854775807 := hd0
  refine pfun_of Tryd.func53 rfl (by decide) Tryd.ntmps53 Tryd.results53 (by simp) rfl rfl ?_
  by_cases hn0 : left - (x.name.size : Int) < 0
  · have en0 : decide (left - (x.name.size : Int) < 0) = true := decide_eq_true hn0
    repeat' first
      | refine Z1 ?_ | refine Z2 ?_ | refine Z5 ?_ | refine Zg ?_ | refine Zo ?_ | refine ok_seq ?_ | refine Zp ?_ | refine ok_ret ?_ | refine x_ret_then ?_ | refine Zt ?_
    exact ret_vi (by rw [subI_over (by simp only [wSlt]; omega)])
  have en0 : decide (left - (x.name.size : Int) < 0) = false := decide_eq_false hn0
  repeat' first
    | refine Z1 ?_ | refine Z2 ?_ | refine Z5 ?_ | refine Zg ?_ | refine Zo ?_ | refine ok_seq ?_ | refine Zq ?_ | refine ok_skip ?_ | refine ok_ret ?_ | refine x_normal_then ?_ | refine Zt ?_
  exact ret_vi (by rw [subI_in (left := left) (n := wSlt x) (by simp only [wSlt]; omega)]; (simp only [wSlt] <;> omega))

theorem szSlotS_ok (l : List (Slt)) (left : Int) (h0 : 0 ≤ left) (h1 : left ≤ 1048576) (hd : dL (dSlt) l) : PFun X 30 [.d (.im (l.map eSlt)), vi left] (vi (subI left (wL (wSlt) l))) := by
  obtain ⟨hd1, hd2⟩ := hd
  simp only [mx] at hd1
  refine pfun_of Tryd.func30 rfl (by decide) Tryd.ntmps30 Tryd.results30 (by simp) rfl rfl ?_
  by_cases hlt : left - (l.length : Int) < 0
  · have e1 : decide (left - (l.length : Int) < 0) = true := decide_eq_true hlt
    repeat' first
      | refine Z1 ?_ | refine Z2 ?_ | refine Z5 ?_ | refine Zd ?_ | refine Zg ?_ | refine Zo ?_ | refine ok_seq ?_ | refine Zp ?_ | refine ok_ret ?_ | refine x_ret_then ?_ | refine Zt ?_
    exact ret_vi (by rw [subI_over (by simp only [wL]; omega)])
  · have e1 : decide (left - (l.length : Int) < 0) = false := decide_eq_false hlt
    repeat' first
      | refine Z1 ?_ | refine Z2 ?_ | refine Z5 ?_ | refine Zd ?_ | refine Zg ?_ | refine Zo ?_ | refine ok_seq ?_ | refine Zq ?_ | refine ok_block ?_ | refine ok_skip ?_ | refine x_normal_then ?_
    refine ok_for (ι := Nat × Int) (fun x => envL [(0, .d (.im (l.map eSlt))), (1, vi x.2), (4, vi 0), (5, vi x.1)]) (fun x => stL []) (fun x => x.1 ≤ l.length ∧ 0 ≤ x.2 ∧ x.2 ≤ left ∧ subI x.2 ((l.drop x.1).map (wSlt)).sum = subI left (wL (wSlt) l)) (fun x => l.length - x.1) (0, left - l.length) (⟨Nat.zero_le _, by simp only; omega, by simp only; omega, by simp only [List.drop_zero]; rw [subI_add (by omega)]; rfl⟩) (weak_mk rfl ⟨.refl _, .refl _, .refl _, .refl _, trivial⟩ trivial) (fun _ => Nat.le_refl 0) ?_
    rintro ⟨k, lf⟩ ⟨i1, i2, i3, i4⟩
    simp only at i1 i2 i3 i4
    rcases hx : l[k]? with _ | x
    · have hle := none_le hx
      have ek : decide ((k : Int) < (l.length : Int)) = false := decide_eq_false (by omega)
      rw [drop_none hx] at i4
      repeat' first
        | refine Z1 ?_ | refine Z2 ?_ | refine Z5 ?_ | refine Zd ?_ | refine Zo ?_ | refine ok_seq ?_ | refine Zq ?_ | refine ok_exit ?_ | refine ok_ret ?_ | refine x_normal_then ?_ | refine x_exit_here ?_ | refine Zv ?_ | refine Zt ?_
      exact ret_vi (by rw [← i4]; simp [subI]; omega)
    · obtain ⟨hdr, hlt2⟩ := drop_some hx
      have ek : decide ((k : Int) < (l.length : Int)) = true := decide_eq_true (by omega)
      rw [hdr, List.map_cons, List.sum_cons] at i4
      have hdx := hd2 x (List.mem_of_getElem? hx)
      by_cases hn : subI lf (wSlt x) < 0
      · have en : decide (subI lf (wSlt x) < 0) = true := decide_eq_true hn
        obtain ⟨hn1, hn2⟩ := subI_neg hn
        repeat' first
          | refine Z1 ?_ | refine Z2 ?_ | refine Z5 ?_ | refine Zc (szSlot_ok x lf i2 (by omega) hdx) ?_ | refine Zd ?_ | refine Ze ?_ | refine Zo ?_ | refine ok_seq ?_ | refine Zp ?_ | refine ok_block ?_ | refine ok_skip ?_ | refine ok_ret ?_
          | refine x_normal_then ?_ | refine x_ret_then ?_ | refine x_ret_block ?_ | refine Zt ?_
        exact ret_vi (by rw [← i4, subI_over (by omega)])
      · have en : decide (subI lf (wSlt x) < 0) = false := decide_eq_false hn
        obtain ⟨hn1, hn2⟩ := subI_pos hn i2
        repeat' first
          | refine Z1 ?_ | refine Z2 ?_ | refine Z5 ?_ | refine Zc (szSlot_ok x lf i2 (by omega) hdx) ?_ | refine Zd ?_ | refine Ze ?_ | refine Zf ?_ | refine Zo ?_ | refine ok_seq ?_ | refine ok_reg ?_ | refine Zp ?_ | refine Zq ?_
          | refine ok_block ?_ | refine ok_skip ?_ | refine x_normal_then ?_ | refine x_normal_block ?_
        exact ⟨(k + 1, subI lf (wSlt x)), ⟨by simp only; omega, by simp only; omega, by simp only; omega, by simp only; rw [hn2, subI_add hn1]; exact i4⟩, by (try simp only); omega, low_mk (Nat.zero_le _) ⟨⟨rfl, rfl⟩, ⟨rfl, rfl⟩, ⟨rfl, rfl⟩, ⟨rfl, rfl⟩, trivial⟩ trivial⟩

theorem szIntS_ok (l : List Int) (left : Int) (h0 : 0 ≤ left) (h1 : left ≤ 1048576) (hd : dNums l) : PFun X 32 [.d (.im (l.map eNum)), vi left] (vi (subI left (wL wNum0 l))) := by
  have hd1 : l.length ≤ 9223372036854775807 := hd
  have hw0 := wNum0_sum l
  refine pfun_of Tryd.func32 rfl (by decide) Tryd.ntmps32 Tryd.results32 (by simp) rfl rfl ?_
  by_cases hlt : left - (l.length : Int) < 0
  · have e1 : decide (left - (l.length : Int) < 0) = true := decide_eq_true hlt
    repeat' first
      | refine Z1 ?_ | refine Z2 ?_ | refine Z5 ?_ | refine Zd ?_ | refine Zg ?_ | refine Zo ?_ | refine ok_seq ?_ | refine Zp ?_ | refine ok_ret ?_ | refine x_ret_then ?_ | refine Zt ?_
    exact ret_vi (by rw [subI_over (by simp only [wL]; omega)])
  · have e1 : decide (left - (l.length : Int) < 0) = false := decide_eq_false hlt
    repeat' first
      | refine Z1 ?_ | refine Z2 ?_ | refine Z5 ?_ | refine Zd ?_ | refine Zg ?_ | refine Zo ?_ | refine ok_seq ?_ | refine Zq ?_ | refine ok_skip ?_ | refine ok_ret ?_ | refine x_normal_then ?_ | refine Zt ?_
    exact ret_vi (by rw [subI_in (by simp only [wL]; omega)]; simp only [wL]; omega)

theorem szStm_ok (x : Sm) (left : Int) (h0 : 0 ≤ left) (h1 : left ≤ 1048576) (hd : dSm x) : PFun X 54 [.agg ((eSm x).map .d), vi left] (vi (subI left (wSm x))) := by
  obtain ⟨hd0, hd1, hd2, hd3⟩ := hd
  have hd0 : x.name.size ≤ 9223372036854775807 := hd0
  refine pfun_of Tryd.func54 rfl (by decide) Tryd.ntmps54 Tryd.results54 (by simp) rfl rfl ?_
  by_cases hn0 : left - (x.name.size : Int) < 0
  · have en0 : decide (left - (x.name.size : Int) < 0) = true := decide_eq_true hn0
    repeat' first
      | refine Z1 ?_ | refine Z2 ?_ | refine Z5 ?_ | refine Zg ?_ | refine Zo ?_ | refine ok_seq ?_ | refine Zp ?_ | refine ok_ret ?_ | refine x_ret_then ?_ | refine Zt ?_
    exact ret_vi (by rw [subI_over (by simp only [wSm]; omega)])
  have en0 : decide (left - (x.name.size : Int) < 0) = false := decide_eq_false hn0
  by_cases hn1 : subI (left - (x.name.size : Int)) (wL wStr x.outs) < 0
  · have en1 : decide (subI (left - (x.name.size : Int)) (wL wStr x.outs) < 0) = true := decide_eq_true hn1
    obtain ⟨ha1, hb1⟩ := subI_neg hn1
    repeat' first
      | refine Z1 ?_ | refine Z2 ?_ | refine Z5 ?_ | refine Zc (szStringS_ok x.outs (left - (x.name.size : Int)) (by omega) (by omega) hd1) ?_ | refine Zg ?_ | refine Zo ?_ | refine ok_seq ?_ | refine Zp ?_ | refine Zq ?_ | refine ok_skip ?_
      | refine ok_ret ?_ | refine x_normal_then ?_ | refine x_ret_then ?_ | refine Zt ?_
    exact ret_vi (by rw [subI_over (by simp only [wSm]; omega)])
  have en1 : decide (subI (left - (x.name.size : Int)) (wL wStr x.outs) < 0) = false := decide_eq_false hn1
  obtain ⟨ha1, hb1⟩ := subI_pos hn1 (by omega)
  by_cases hn2 : subI (subI (left - (x.name.size : Int)) (wL wStr x.outs)) (wL wItm x.code) < 0
  · have en2 : decide (subI (subI (left - (x.name.size : Int)) (wL wStr x.outs)) (wL wItm x.code) < 0) = true := decide_eq_true hn2
    obtain ⟨ha2, hb2⟩ := subI_neg hn2
    repeat' first
      | refine Z1 ?_ | refine Z2 ?_ | refine Z5 ?_ | refine Zc (szStringS_ok x.outs (left - (x.name.size : Int)) (by omega) (by omega) hd1) ?_
      | refine Zc (szItemS_ok x.code (subI (left - (x.name.size : Int)) (wL wStr x.outs)) (by omega) (by omega) hd2) ?_ | refine Zg ?_ | refine Zo ?_ | refine ok_seq ?_ | refine Zp ?_ | refine Zq ?_ | refine ok_skip ?_ | refine ok_ret ?_
      | refine x_normal_then ?_ | refine x_ret_then ?_ | refine Zt ?_
    exact ret_vi (by rw [subI_over (by simp only [wSm]; omega)])
  have en2 : decide (subI (subI (left - (x.name.size : Int)) (wL wStr x.outs)) (wL wItm x.code) < 0) = false := decide_eq_false hn2
  obtain ⟨ha2, hb2⟩ := subI_pos hn2 (by omega)
  by_cases hn3 : subI (subI (subI (left - (x.name.size : Int)) (wL wStr x.outs)) (wL wItm x.code)) (wL (wL wItm) x.args) < 0
  · have en3 : decide (subI (subI (subI (left - (x.name.size : Int)) (wL wStr x.outs)) (wL wItm x.code)) (wL (wL wItm) x.args) < 0) = true := decide_eq_true hn3
    obtain ⟨ha3, hb3⟩ := subI_neg hn3
    repeat' first
      | refine Z1 ?_ | refine Z2 ?_ | refine Z5 ?_ | refine Zc (szStringS_ok x.outs (left - (x.name.size : Int)) (by omega) (by omega) hd1) ?_
      | refine Zc (szItemS_ok x.code (subI (left - (x.name.size : Int)) (wL wStr x.outs)) (by omega) (by omega) hd2) ?_
      | refine Zc (szItemSS_ok x.args (subI (subI (left - (x.name.size : Int)) (wL wStr x.outs)) (wL wItm x.code)) (by omega) (by omega) hd3) ?_ | refine Zg ?_ | refine Zo ?_ | refine ok_seq ?_ | refine Zp ?_ | refine Zq ?_ | refine ok_skip ?_
      | refine ok_ret ?_ | refine x_normal_then ?_ | refine x_ret_then ?_ | refine Zt ?_
    exact ret_vi (by rw [subI_over (by simp only [wSm]; omega)])
  have en3 : decide (subI (subI (subI (left - (x.name.size : Int)) (wL wStr x.outs)) (wL wItm x.code)) (wL (wL wItm) x.args) < 0) = false := decide_eq_false hn3
  obtain ⟨ha3, hb3⟩ := subI_pos hn3 (by omega)
  repeat' first
    | refine Z1 ?_ | refine Z2 ?_ | refine Z5 ?_ | refine Zc (szStringS_ok x.outs (left - (x.name.size : Int)) (by omega) (by omega) hd1) ?_
    | refine Zc (szItemS_ok x.code (subI (left - (x.name.size : Int)) (wL wStr x.outs)) (by omega) (by omega) hd2) ?_
    | refine Zc (szItemSS_ok x.args (subI (subI (left - (x.name.size : Int)) (wL wStr x.outs)) (wL wItm x.code)) (by omega) (by omega) hd3) ?_ | refine Zg ?_ | refine Zo ?_ | refine ok_seq ?_ | refine Zq ?_ | refine ok_skip ?_
    | refine ok_ret ?_ | refine x_normal_then ?_ | refine Zt ?_
  exact ret_vi (by rw [subI_in (left := left) (n := wSm x) (by simp only [wSm]; omega)]; (simp only [wSm] <;> omega))

theorem szStmS_ok (l : List (Sm)) (left : Int) (h0 : 0 ≤ left) (h1 : left ≤ 1048576) (hd : dL (dSm) l) : PFun X 33 [.d (.im (l.map eSm)), vi left] (vi (subI left (wL (wSm) l))) := by
  obtain ⟨hd1, hd2⟩ := hd
  simp only [mx] at hd1
  refine pfun_of Tryd.func33 rfl (by decide) Tryd.ntmps33 Tryd.results33 (by simp) rfl rfl ?_
  by_cases hlt : left - (l.length : Int) < 0
  · have e1 : decide (left - (l.length : Int) < 0) = true := decide_eq_true hlt
    repeat' first
      | refine Z1 ?_ | refine Z2 ?_ | refine Z5 ?_ | refine Zd ?_ | refine Zg ?_ | refine Zo ?_ | refine ok_seq ?_ | refine Zp ?_ | refine ok_ret ?_ | refine x_ret_then ?_ | refine Zt ?_
    exact ret_vi (by rw [subI_over (by simp only [wL]; omega)])
  · have e1 : decide (left - (l.length : Int) < 0) = false := decide_eq_false hlt
    repeat' first
      | refine Z1 ?_ | refine Z2 ?_ | refine Z5 ?_ | refine Zd ?_ | refine Zg ?_ | refine Zo ?_ | refine ok_seq ?_ | refine Zq ?_ | refine ok_block ?_ | refine ok_skip ?_ | refine x_normal_then ?_
    refine ok_for (ι := Nat × Int) (fun x => envL [(0, .d (.im (l.map eSm))), (1, vi x.2), (4, vi 0), (5, vi x.1)]) (fun x => stL []) (fun x => x.1 ≤ l.length ∧ 0 ≤ x.2 ∧ x.2 ≤ left ∧ subI x.2 ((l.drop x.1).map (wSm)).sum = subI left (wL (wSm) l)) (fun x => l.length - x.1) (0, left - l.length) (⟨Nat.zero_le _, by simp only; omega, by simp only; omega, by simp only [List.drop_zero]; rw [subI_add (by omega)]; rfl⟩) (weak_mk rfl ⟨.refl _, .refl _, .refl _, .refl _, trivial⟩ trivial) (fun _ => Nat.le_refl 0) ?_
    rintro ⟨k, lf⟩ ⟨i1, i2, i3, i4⟩
    simp only at i1 i2 i3 i4
    rcases hx : l[k]? with _ | x
    · have hle := none_le hx
      have ek : decide ((k : Int) < (l.length : Int)) = false := decide_eq_false (by omega)
      rw [drop_none hx] at i4
      repeat' first
        | refine Z1 ?_ | refine Z2 ?_ | refine Z5 ?_ | refine Zd ?_ | refine Zo ?_ | refine ok_seq ?_ | refine Zq ?_ | refine ok_exit ?_ | refine ok_ret ?_ | refine x_normal_then ?_ | refine x_exit_here ?_ | refine Zv ?_ | refine Zt ?_
      exact ret_vi (by rw [← i4]; simp [subI]; omega)
    · obtain ⟨hdr, hlt2⟩ := drop_some hx
      have ek : decide ((k : Int) < (l.length : Int)) = true := decide_eq_true (by omega)
      rw [hdr, List.map_cons, List.sum_cons] at i4
      have hdx := hd2 x (List.mem_of_getElem? hx)
      by_cases hn : subI lf (wSm x) < 0
      · have en : decide (subI lf (wSm x) < 0) = true := decide_eq_true hn
        obtain ⟨hn1, hn2⟩ := subI_neg hn
        repeat' first
          | refine Z1 ?_ | refine Z2 ?_ | refine Z5 ?_ | refine Zc (szStm_ok x lf i2 (by omega) hdx) ?_ | refine Zd ?_ | refine Ze ?_ | refine Zo ?_ | refine ok_seq ?_ | refine Zp ?_ | refine ok_block ?_ | refine ok_skip ?_ | refine ok_ret ?_
          | refine x_normal_then ?_ | refine x_ret_then ?_ | refine x_ret_block ?_ | refine Zt ?_
        exact ret_vi (by rw [← i4, subI_over (by omega)])
      · have en : decide (subI lf (wSm x) < 0) = false := decide_eq_false hn
        obtain ⟨hn1, hn2⟩ := subI_pos hn i2
        repeat' first
          | refine Z1 ?_ | refine Z2 ?_ | refine Z5 ?_ | refine Zc (szStm_ok x lf i2 (by omega) hdx) ?_ | refine Zd ?_ | refine Ze ?_ | refine Zf ?_ | refine Zo ?_ | refine ok_seq ?_ | refine ok_reg ?_ | refine Zp ?_ | refine Zq ?_
          | refine ok_block ?_ | refine ok_skip ?_ | refine x_normal_then ?_ | refine x_normal_block ?_
        exact ⟨(k + 1, subI lf (wSm x)), ⟨by simp only; omega, by simp only; omega, by simp only; omega, by simp only; rw [hn2, subI_add hn1]; exact i4⟩, by (try simp only); omega, low_mk (Nat.zero_le _) ⟨⟨rfl, rfl⟩, ⟨rfl, rfl⟩, ⟨rfl, rfl⟩, ⟨rfl, rfl⟩, trivial⟩ trivial⟩

theorem szClass_ok (x : Cls) (left : Int) (h0 : 0 ≤ left) (h1 : left ≤ 1048576) (hd : dCls x) : PFun X 21 [.agg ((eCls x).map .d), vi left] (vi (subI left (wCls x))) := by
  obtain ⟨hd0, hd1, hd2, hd3, hd4, hd5, hd6⟩ := hd
  have hd0 : x.name.size ≤ 9223372036854775807 := hd0
  refine pfun_of Tryd.func21 rfl (by decide) Tryd.ntmps21 Tryd.results21 (by simp) rfl rfl ?_
  by_cases hn0 : left - (x.name.size : Int) < 0
  · have en0 : decide (left - (x.name.size : Int) < 0) = true := decide_eq_true hn0
    repeat' first
      | refine Z1 ?_ | refine Z2 ?_ | refine Z5 ?_ | refine Zg ?_ | refine Zo ?_ | refine ok_seq ?_ | refine Zp ?_ | refine ok_ret ?_ | refine x_ret_then ?_ | refine Zt ?_
    exact ret_vi (by rw [subI_over (by simp only [wCls]; omega)])
  have en0 : decide (left - (x.name.size : Int) < 0) = false := decide_eq_false hn0
  by_cases hn1 : subI (left - (x.name.size : Int)) (wL wSlt x.ins) < 0
  · have en1 : decide (subI (left - (x.name.size : Int)) (wL wSlt x.ins) < 0) = true := decide_eq_true hn1
    obtain ⟨ha1, hb1⟩ := subI_neg hn1
    repeat' first
      | refine Z1 ?_ | refine Z2 ?_ | refine Z5 ?_ | refine Zc (szSlotS_ok x.ins (left - (x.name.size : Int)) (by omega) (by omega) hd1) ?_ | refine Zg ?_ | refine Zo ?_ | refine ok_seq ?_ | refine Zp ?_ | refine Zq ?_ | refine ok_skip ?_
      | refine ok_ret ?_ | refine x_normal_then ?_ | refine x_ret_then ?_ | refine Zt ?_
    exact ret_vi (by rw [subI_over (by simp only [wCls]; omega)])
  have en1 : decide (subI (left - (x.name.size : Int)) (wL wSlt x.ins) < 0) = false := decide_eq_false hn1
  obtain ⟨ha1, hb1⟩ := subI_pos hn1 (by omega)
  by_cases hn2 : subI (subI (left - (x.name.size : Int)) (wL wSlt x.ins)) (wL wSlt x.outs) < 0
  · have en2 : decide (subI (subI (left - (x.name.size : Int)) (wL wSlt x.ins)) (wL wSlt x.outs) < 0) = true := decide_eq_true hn2
    obtain ⟨ha2, hb2⟩ := subI_neg hn2
    repeat' first
      | refine Z1 ?_ | refine Z2 ?_ | refine Z5 ?_ | refine Zc (szSlotS_ok x.ins (left - (x.name.size : Int)) (by omega) (by omega) hd1) ?_
      | refine Zc (szSlotS_ok x.outs (subI (left - (x.name.size : Int)) (wL wSlt x.ins)) (by omega) (by omega) hd2) ?_ | refine Zg ?_ | refine Zo ?_ | refine ok_seq ?_ | refine Zp ?_ | refine Zq ?_ | refine ok_skip ?_ | refine ok_ret ?_
      | refine x_normal_then ?_ | refine x_ret_then ?_ | refine Zt ?_
    exact ret_vi (by rw [subI_over (by simp only [wCls]; omega)])
  have en2 : decide (subI (subI (left - (x.name.size : Int)) (wL wSlt x.ins)) (wL wSlt x.outs) < 0) = false := decide_eq_false hn2
  obtain ⟨ha2, hb2⟩ := subI_pos hn2 (by omega)
  by_cases hn3 : subI (subI (subI (left - (x.name.size : Int)) (wL wSlt x.ins)) (wL wSlt x.outs)) (wL wStr x.locs) < 0
  · have en3 : decide (subI (subI (subI (left - (x.name.size : Int)) (wL wSlt x.ins)) (wL wSlt x.outs)) (wL wStr x.locs) < 0) = true := decide_eq_true hn3
    obtain ⟨ha3, hb3⟩ := subI_neg hn3
    repeat' first
      | refine Z1 ?_ | refine Z2 ?_ | refine Z5 ?_ | refine Zc (szSlotS_ok x.ins (left - (x.name.size : Int)) (by omega) (by omega) hd1) ?_
      | refine Zc (szSlotS_ok x.outs (subI (left - (x.name.size : Int)) (wL wSlt x.ins)) (by omega) (by omega) hd2) ?_
      | refine Zc (szStringS_ok x.locs (subI (subI (left - (x.name.size : Int)) (wL wSlt x.ins)) (wL wSlt x.outs)) (by omega) (by omega) hd3) ?_ | refine Zg ?_ | refine Zo ?_ | refine ok_seq ?_ | refine Zp ?_ | refine Zq ?_ | refine ok_skip ?_
      | refine ok_ret ?_ | refine x_normal_then ?_ | refine x_ret_then ?_ | refine Zt ?_
    exact ret_vi (by rw [subI_over (by simp only [wCls]; omega)])
  have en3 : decide (subI (subI (subI (left - (x.name.size : Int)) (wL wSlt x.ins)) (wL wSlt x.outs)) (wL wStr x.locs) < 0) = false := decide_eq_false hn3
  obtain ⟨ha3, hb3⟩ := subI_pos hn3 (by omega)
  by_cases hn4 : subI (subI (subI (subI (left - (x.name.size : Int)) (wL wSlt x.ins)) (wL wSlt x.outs)) (wL wStr x.locs)) (wL wNum0 x.mems) < 0
  · have en4 : decide (subI (subI (subI (subI (left - (x.name.size : Int)) (wL wSlt x.ins)) (wL wSlt x.outs)) (wL wStr x.locs)) (wL wNum0 x.mems) < 0) = true := decide_eq_true hn4
    obtain ⟨ha4, hb4⟩ := subI_neg hn4
    repeat' first
      | refine Z1 ?_ | refine Z2 ?_ | refine Z5 ?_ | refine Zc (szSlotS_ok x.ins (left - (x.name.size : Int)) (by omega) (by omega) hd1) ?_
      | refine Zc (szSlotS_ok x.outs (subI (left - (x.name.size : Int)) (wL wSlt x.ins)) (by omega) (by omega) hd2) ?_
      | refine Zc (szStringS_ok x.locs (subI (subI (left - (x.name.size : Int)) (wL wSlt x.ins)) (wL wSlt x.outs)) (by omega) (by omega) hd3) ?_
      | refine Zc (szIntS_ok x.mems (subI (subI (subI (left - (x.name.size : Int)) (wL wSlt x.ins)) (wL wSlt x.outs)) (wL wStr x.locs)) (by omega) (by omega) hd4) ?_ | refine Zg ?_ | refine Zo ?_ | refine ok_seq ?_ | refine Zp ?_
      | refine Zq ?_ | refine ok_skip ?_ | refine ok_ret ?_ | refine x_normal_then ?_ | refine x_ret_then ?_ | refine Zt ?_
    exact ret_vi (by rw [subI_over (by simp only [wCls]; omega)])
  have en4 : decide (subI (subI (subI (subI (left - (x.name.size : Int)) (wL wSlt x.ins)) (wL wSlt x.outs)) (wL wStr x.locs)) (wL wNum0 x.mems) < 0) = false := decide_eq_false hn4
  obtain ⟨ha4, hb4⟩ := subI_pos hn4 (by omega)
  by_cases hn5 : subI (subI (subI (subI (subI (left - (x.name.size : Int)) (wL wSlt x.ins)) (wL wSlt x.outs)) (wL wStr x.locs)) (wL wNum0 x.mems)) (wL wNum0 x.insts) < 0
  · have en5 : decide (subI (subI (subI (subI (subI (left - (x.name.size : Int)) (wL wSlt x.ins)) (wL wSlt x.outs)) (wL wStr x.locs)) (wL wNum0 x.mems)) (wL wNum0 x.insts) < 0) = true := decide_eq_true hn5
    obtain ⟨ha5, hb5⟩ := subI_neg hn5
    repeat' first
      | refine Z1 ?_ | refine Z2 ?_ | refine Z5 ?_ | refine Zc (szSlotS_ok x.ins (left - (x.name.size : Int)) (by omega) (by omega) hd1) ?_
      | refine Zc (szSlotS_ok x.outs (subI (left - (x.name.size : Int)) (wL wSlt x.ins)) (by omega) (by omega) hd2) ?_
      | refine Zc (szStringS_ok x.locs (subI (subI (left - (x.name.size : Int)) (wL wSlt x.ins)) (wL wSlt x.outs)) (by omega) (by omega) hd3) ?_
      | refine Zc (szIntS_ok x.mems (subI (subI (subI (left - (x.name.size : Int)) (wL wSlt x.ins)) (wL wSlt x.outs)) (wL wStr x.locs)) (by omega) (by omega) hd4) ?_
      | refine Zc (szIntS_ok x.insts (subI (subI (subI (subI (left - (x.name.size : Int)) (wL wSlt x.ins)) (wL wSlt x.outs)) (wL wStr x.locs)) (wL wNum0 x.mems)) (by omega) (by omega) hd5) ?_ | refine Zg ?_ | refine Zo ?_ | refine ok_seq ?_
      | refine Zp ?_ | refine Zq ?_ | refine ok_skip ?_ | refine ok_ret ?_ | refine x_normal_then ?_ | refine x_ret_then ?_ | refine Zt ?_
    exact ret_vi (by rw [subI_over (by simp only [wCls]; omega)])
  have en5 : decide (subI (subI (subI (subI (subI (left - (x.name.size : Int)) (wL wSlt x.ins)) (wL wSlt x.outs)) (wL wStr x.locs)) (wL wNum0 x.mems)) (wL wNum0 x.insts) < 0) = false := decide_eq_false hn5
  obtain ⟨ha5, hb5⟩ := subI_pos hn5 (by omega)
  by_cases hn6 : subI (subI (subI (subI (subI (subI (left - (x.name.size : Int)) (wL wSlt x.ins)) (wL wSlt x.outs)) (wL wStr x.locs)) (wL wNum0 x.mems)) (wL wNum0 x.insts)) (wL wSm x.body) < 0
  · have en6 : decide (subI (subI (subI (subI (subI (subI (left - (x.name.size : Int)) (wL wSlt x.ins)) (wL wSlt x.outs)) (wL wStr x.locs)) (wL wNum0 x.mems)) (wL wNum0 x.insts)) (wL wSm x.body) < 0) = true := decide_eq_true hn6
    obtain ⟨ha6, hb6⟩ := subI_neg hn6
    repeat' first
      | refine Z1 ?_ | refine Z2 ?_ | refine Z5 ?_ | refine Zc (szSlotS_ok x.ins (left - (x.name.size : Int)) (by omega) (by omega) hd1) ?_
      | refine Zc (szSlotS_ok x.outs (subI (left - (x.name.size : Int)) (wL wSlt x.ins)) (by omega) (by omega) hd2) ?_
      | refine Zc (szStringS_ok x.locs (subI (subI (left - (x.name.size : Int)) (wL wSlt x.ins)) (wL wSlt x.outs)) (by omega) (by omega) hd3) ?_
      | refine Zc (szIntS_ok x.mems (subI (subI (subI (left - (x.name.size : Int)) (wL wSlt x.ins)) (wL wSlt x.outs)) (wL wStr x.locs)) (by omega) (by omega) hd4) ?_
      | refine Zc (szIntS_ok x.insts (subI (subI (subI (subI (left - (x.name.size : Int)) (wL wSlt x.ins)) (wL wSlt x.outs)) (wL wStr x.locs)) (wL wNum0 x.mems)) (by omega) (by omega) hd5) ?_
      | refine Zc (szStmS_ok x.body (subI (subI (subI (subI (subI (left - (x.name.size : Int)) (wL wSlt x.ins)) (wL wSlt x.outs)) (wL wStr x.locs)) (wL wNum0 x.mems)) (wL wNum0 x.insts)) (by omega) (by omega) hd6) ?_ | refine Zg ?_
      | refine Zo ?_ | refine ok_seq ?_ | refine Zp ?_ | refine Zq ?_ | refine ok_skip ?_ | refine ok_ret ?_ | refine x_normal_then ?_ | refine x_ret_then ?_ | refine Zt ?_
    exact ret_vi (by rw [subI_over (by simp only [wCls]; omega)])
  have en6 : decide (subI (subI (subI (subI (subI (subI (left - (x.name.size : Int)) (wL wSlt x.ins)) (wL wSlt x.outs)) (wL wStr x.locs)) (wL wNum0 x.mems)) (wL wNum0 x.insts)) (wL wSm x.body) < 0) = false := decide_eq_false hn6
  obtain ⟨ha6, hb6⟩ := subI_pos hn6 (by omega)
  repeat' first
    | refine Z1 ?_ | refine Z2 ?_ | refine Z5 ?_ | refine Zc (szSlotS_ok x.ins (left - (x.name.size : Int)) (by omega) (by omega) hd1) ?_
    | refine Zc (szSlotS_ok x.outs (subI (left - (x.name.size : Int)) (wL wSlt x.ins)) (by omega) (by omega) hd2) ?_
    | refine Zc (szStringS_ok x.locs (subI (subI (left - (x.name.size : Int)) (wL wSlt x.ins)) (wL wSlt x.outs)) (by omega) (by omega) hd3) ?_
    | refine Zc (szIntS_ok x.mems (subI (subI (subI (left - (x.name.size : Int)) (wL wSlt x.ins)) (wL wSlt x.outs)) (wL wStr x.locs)) (by omega) (by omega) hd4) ?_
    | refine Zc (szIntS_ok x.insts (subI (subI (subI (subI (left - (x.name.size : Int)) (wL wSlt x.ins)) (wL wSlt x.outs)) (wL wStr x.locs)) (wL wNum0 x.mems)) (by omega) (by omega) hd5) ?_
    | refine Zc (szStmS_ok x.body (subI (subI (subI (subI (subI (left - (x.name.size : Int)) (wL wSlt x.ins)) (wL wSlt x.outs)) (wL wStr x.locs)) (wL wNum0 x.mems)) (wL wNum0 x.insts)) (by omega) (by omega) hd6) ?_ | refine Zg ?_
    | refine Zo ?_ | refine ok_seq ?_ | refine Zq ?_ | refine ok_skip ?_ | refine ok_ret ?_ | refine x_normal_then ?_ | refine Zt ?_
  exact ret_vi (by rw [subI_in (left := left) (n := wCls x) (by simp only [wCls]; omega)]; (simp only [wCls] <;> omega))

theorem szClassS_ok (l : List (Cls)) (left : Int) (h0 : 0 ≤ left) (h1 : left ≤ 1048576) (hd : dL (dCls) l) : PFun X 13 [.d (.im (l.map eCls)), vi left] (vi (subI left (wL (wCls) l))) := by
  obtain ⟨hd1, hd2⟩ := hd
  simp only [mx] at hd1
  refine pfun_of Tryd.func13 rfl (by decide) Tryd.ntmps13 Tryd.results13 (by simp) rfl rfl ?_
  by_cases hlt : left - (l.length : Int) < 0
  · have e1 : decide (left - (l.length : Int) < 0) = true := decide_eq_true hlt
    repeat' first
      | refine Z1 ?_ | refine Z2 ?_ | refine Z5 ?_ | refine Zd ?_ | refine Zg ?_ | refine Zo ?_ | refine ok_seq ?_ | refine Zp ?_ | refine ok_ret ?_ | refine x_ret_then ?_ | refine Zt ?_
    exact ret_vi (by rw [subI_over (by simp only [wL]; omega)])
  · have e1 : decide (left - (l.length : Int) < 0) = false := decide_eq_false hlt
    repeat' first
      | refine Z1 ?_ | refine Z2 ?_ | refine Z5 ?_ | refine Zd ?_ | refine Zg ?_ | refine Zo ?_ | refine ok_seq ?_ | refine Zq ?_ | refine ok_block ?_ | refine ok_skip ?_ | refine x_normal_then ?_
    refine ok_for (ι := Nat × Int) (fun x => envL [(0, .d (.im (l.map eCls))), (1, vi x.2), (4, vi 0), (5, vi x.1)]) (fun x => stL []) (fun x => x.1 ≤ l.length ∧ 0 ≤ x.2 ∧ x.2 ≤ left ∧ subI x.2 ((l.drop x.1).map (wCls)).sum = subI left (wL (wCls) l)) (fun x => l.length - x.1) (0, left - l.length) (⟨Nat.zero_le _, by simp only; omega, by simp only; omega, by simp only [List.drop_zero]; rw [subI_add (by omega)]; rfl⟩) (weak_mk rfl ⟨.refl _, .refl _, .refl _, .refl _, trivial⟩ trivial) (fun _ => Nat.le_refl 0) ?_
    rintro ⟨k, lf⟩ ⟨i1, i2, i3, i4⟩
    simp only at i1 i2 i3 i4
    rcases hx : l[k]? with _ | x
    · have hle := none_le hx
      have ek : decide ((k : Int) < (l.length : Int)) = false := decide_eq_false (by omega)
      rw [drop_none hx] at i4
      repeat' first
        | refine Z1 ?_ | refine Z2 ?_ | refine Z5 ?_ | refine Zd ?_ | refine Zo ?_ | refine ok_seq ?_ | refine Zq ?_ | refine ok_exit ?_ | refine ok_ret ?_ | refine x_normal_then ?_ | refine x_exit_here ?_ | refine Zv ?_ | refine Zt ?_
      exact ret_vi (by rw [← i4]; simp [subI]; omega)
    · obtain ⟨hdr, hlt2⟩ := drop_some hx
      have ek : decide ((k : Int) < (l.length : Int)) = true := decide_eq_true (by omega)
      rw [hdr, List.map_cons, List.sum_cons] at i4
      have hdx := hd2 x (List.mem_of_getElem? hx)
      by_cases hn : subI lf (wCls x) < 0
      · have en : decide (subI lf (wCls x) < 0) = true := decide_eq_true hn
        obtain ⟨hn1, hn2⟩ := subI_neg hn
        repeat' first
          | refine Z1 ?_ | refine Z2 ?_ | refine Z5 ?_ | refine Zc (szClass_ok x lf i2 (by omega) hdx) ?_ | refine Zd ?_ | refine Ze ?_ | refine Zo ?_ | refine ok_seq ?_ | refine Zp ?_ | refine ok_block ?_ | refine ok_skip ?_
          | refine ok_ret ?_ | refine x_normal_then ?_ | refine x_ret_then ?_ | refine x_ret_block ?_ | refine Zt ?_
        exact ret_vi (by rw [← i4, subI_over (by omega)])
      · have en : decide (subI lf (wCls x) < 0) = false := decide_eq_false hn
        obtain ⟨hn1, hn2⟩ := subI_pos hn i2
        repeat' first
          | refine Z1 ?_ | refine Z2 ?_ | refine Z5 ?_ | refine Zc (szClass_ok x lf i2 (by omega) hdx) ?_ | refine Zd ?_ | refine Ze ?_ | refine Zf ?_ | refine Zo ?_ | refine ok_seq ?_ | refine ok_reg ?_ | refine Zp ?_ | refine Zq ?_
          | refine ok_block ?_ | refine ok_skip ?_ | refine x_normal_then ?_ | refine x_normal_block ?_
        exact ⟨(k + 1, subI lf (wCls x)), ⟨by simp only; omega, by simp only; omega, by simp only; omega, by simp only; rw [hn2, subI_add hn1]; exact i4⟩, by (try simp only); omega, low_mk (Nat.zero_le _) ⟨⟨rfl, rfl⟩, ⟨rfl, rfl⟩, ⟨rfl, rfl⟩, ⟨rfl, rfl⟩, trivial⟩ trivial⟩

theorem szMachine_ok (l : List Cls) (left : Int) (h0 : 0 ≤ left) (h1 : left ≤ 1048576) (hd : dL dCls l) : PFun X 4 [.agg [.d (.im (l.map eCls))], vi left] (vi (subI left (wL wCls l))) := by
  refine pfun_of Tryd.func4 rfl (by decide) Tryd.ntmps4 Tryd.results4 (by simp) rfl rfl ?_
  by_cases hn : subI left (wL wCls l) < 0
  · have en : decide (subI left (wL wCls l) < 0) = true := decide_eq_true hn
    obtain ⟨hn1, hn2⟩ := subI_neg hn
    repeat' first
      | refine Z1 ?_ | refine Z2 ?_ | refine Z5 ?_ | refine Zc (szClassS_ok l left h0 h1 hd) ?_ | refine Zo ?_ | refine ok_seq ?_ | refine Zp ?_ | refine ok_ret ?_ | refine x_ret_then ?_ | refine Zt ?_
    exact ret_vi hn2.symm
  · have en : decide (subI left (wL wCls l) < 0) = false := decide_eq_false hn
    repeat' first
      | refine Z1 ?_ | refine Z2 ?_ | refine Z5 ?_ | refine Zc (szClassS_ok l left h0 h1 hd) ?_ | refine Zo ?_ | refine ok_seq ?_ | refine Zq ?_ | refine ok_skip ?_ | refine ok_ret ?_ | refine x_normal_then ?_ | refine Zt ?_
    rfl

end Go.Pm
