/- Machines of the specification: one class. -/
import Derived.Test.YtaabemmnjhgbgaaGreatDoorC3
import Derived.Test.YtaabemmnjhgbgaaGreatDoorC4
set_option linter.unusedVariables false
set_option linter.unusedSimpArgs false
namespace Go.Pm
attribute [local irreducible] AR Ok inBlock andThen endQ aoper
set_option maxHeartbeats 4000000
open Go.Proofs
def headS (c : Cls) : Bool := (!nameS c.name) || decide ((c.outs.length : Int) < 1) || decide (1000 < (c.mems.length : Int)) || decide (1000 < (c.insts.length : Int)) || decide (30000 < (c.body.length : Int))
def varsGo (V : List ByteArray) : Nat → List ByteArray → Bool
  | _, [] => true
  | i, x :: l => if nameS x = false ∨ placeS x 0 V < (i : Int) then false else varsGo V (i + 1) l
def typS (x : Slt) : Bool := decide (1 ≤ x.type) && decide (x.type ≤ 2)
def sameN (c d : Cls) : Bool := decide (d.name = c.name)
def fitS (v : Int) : Bool := decide (v = wrapS v)
def insS (k : Nat) (g : Int) : Bool := decide (0 ≤ g) && decide (g < (k : Int))
def classS (cs : List Cls) (k : Nat) (c : Cls) : Bool :=
  if headS c = true then false
  else if (cs.take k).any (sameN c) = true then false
  else if 1000 < ((nmsC c).length : Int) then false
  else if varsGo (nmsC c) 0 (nmsC c) = false then false
  else if (c.ins ++ c.outs).all typS = false then false
  else if c.mems.all fitS = false then false
  else if c.insts.all (insS k) = false then false
  else if c.body.all (stmS cs c) = false then false
  else if nestV c.body 0 = false then false
  else withinS writesS c.body
theorem parts_lt {l : List Sm} {i : Nat} {s : Sm} (hx : l[i]? = some s) (h4 : s.kind = 4) {O E : Int} (hp : partsS l i = (O, E)) : E < (l.length : Int) := by
  obtain ⟨hd, hlt⟩ := drop_some hx
  unfold partsS at hp
  rw [hd, go_if h4] at hp
  by_cases hE : E < 0
  · omega
  obtain ⟨q, h1, f, h2, _⟩ := parts_at _ _ _ _ _ _ (by omega) hp (by omega)
  have := (List.getElem?_eq_some_iff.1 h2).1
  rw [List.length_drop] at this
  omega
theorem all_of {α : Type} {p : α → Bool} {l : List α} {k : Nat} (h : (l.drop k).all p = l.all p) {x : α} (hx : l[k]? = some x) : (p x = false → l.all p = false) ∧ (p x = true → (l.drop (k + 1)).all p = l.all p) := by
  rw [(drop_some hx).1, List.all_cons] at h
  exact ⟨fun e => by rw [← h, e]; rfl, fun e => by rw [← h, e]; rfl⟩
theorem sclass_ok (cs : List Cls) (k : Nat) (c : Cls) (hx0 : cs[k]? = some c) (hw : wL wCls cs ≤ 1048576) : PFun X 19 [.agg [.d (.im (cs.map eCls))], vi k] (vb (classS cs k c)) := by
  have hcl : cs.length ≤ 1048576 := by simp only [wL] at hw; omega
  have hk := (drop_some hx0).2
  have hwc : wCls c ≤ 1048576 := by have := wL_mem (w := wCls) (List.mem_of_getElem? hx0); simp only [wL] at hw; omega
  have hnl := nms_le hwc
  have hl := cls_le hwc
  have hws : ∀ s ∈ c.body, wSm s ≤ 1048576 := fun s hs => by have := wL_mem (w := wSm) hs; simp only [wCls, wL] at hwc; omega
  have hm : classS cs k c = classS cs k c := rfl
  conv at hm => rhs; unfold classS
  refine pfun_of Tryz.func19 rfl (by decide) Tryz.ntmps19 Tryz.results19 (by simp) rfl rfl ?_
  refine Zo ?_
  repeat' first
    | refine Z1 ?_ | refine Z2 ?_
  refine Zo ?_
  repeat' first
    | refine Z1 ?_ | refine Z2 ?_ | refine Z5 ?_ | refine Ze ?_
  refine ok_seq ?_
  refine ok_cut (envL [(55, vb (headS c)), (1, vi k), (2, .ref 0 0), (5, .ref 1 0)]) (stL [some (.var [.d (.im (cs.map eCls))]), some (.var ((eCls c).map .d))]) ?_ ?_
  ·
    repeat' first
      | refine Z1 ?_ | refine Z3 ?_ | refine Z5 ?_ | refine Z7 ?_ | refine Z9 ?_ | refine Zb (fun hc => ?_) (fun hc => ?_) | refine Zc (sname_ok c.name) ?_ | refine Zd ?_ | refine Zh ?_ | refine Zi ?_ | refine Zl ?_ | refine Zm ?_
      | refine ok_reg ?_
    all_goals exact ⟨rfl, weak_mk rfl ⟨bq (by simp only [headS, *]; try rfl), .refl _, .refl _, .refl _, trivial⟩ ⟨⟨rfl, _, rfl, rfl, fun _ _ _ => .refl _⟩, ⟨rfl, _, rfl, rfl, fun _ _ _ => .refl _⟩, trivial⟩⟩
  cases h1 : headS c with
  | true =>
    rw [if_pos h1] at hm
    repeat' first
      | refine Z1 ?_ | refine Z2 ?_ | refine Zo ?_ | refine Zp ?_ | refine ok_ret ?_ | refine x_ret_then ?_ | refine Zt ?_
    exact ret_vb hm.symm
  | false =>
  rw [if_neg (by rw [h1]; simp)] at hm
  refine Zq ?_
  refine ok_skip ?_
  refine x_normal_then ?_
  repeat' first
    | refine Z1 ?_ | refine Z2 ?_ | refine Zo ?_ | refine ok_seq ?_ | refine ok_block ?_
  refine ok_for (ι := Nat) (fun x => envL [(1, vi k), (2, .ref 0 0), (5, .ref 1 0), (6, vi x)]) (fun x => stL [some (.var [.d (.im (cs.map eCls))]), some (.var ((eCls c).map .d))]) (fun x => x ≤ k ∧ ((cs.take k).drop x).any (sameN c) = (cs.take k).any (sameN c)) (fun x => k - x) 0 (⟨Nat.zero_le _, rfl⟩) (weak_mk rfl ⟨.refl _, .refl _, .refl _, .refl _, trivial⟩ ⟨⟨rfl, _, rfl, rfl, fun _ _ _ => .refl _⟩, ⟨rfl, _, rfl, rfl, fun _ _ _ => .refl _⟩, trivial⟩) (fun _ => Nat.le_refl 2) ?_
  rintro x ⟨i1, i2⟩
  by_cases hxk : x < k
  · have ex : decide ((x : Int) < (k : Int)) = true := decide_eq_true (by omega)
    obtain ⟨d, hd⟩ : ∃ d, cs[x]? = some d := ⟨cs[x]'(by omega), List.getElem?_eq_getElem (by omega)⟩
    have hd2 : (cs.take k)[x]? = some d := by rw [List.getElem?_take, if_pos hxk]; exact hd
    rw [(drop_some hd2).1, List.any_cons] at i2
    cases hq : decide (d.name = c.name) with
    | true =>
      have hm : classS cs k c = false := by rw [hm, if_pos]; rw [← i2, show sameN c d = true from hq]; rfl
      repeat' first
        | refine Z1 ?_ | refine Z2 ?_ | refine Zw ?_ | refine Zx ?_ | refine Zz (Ze ⟨rfl, rfl⟩) ?_ | refine Zo ?_ | refine ok_seq ?_ | refine ok_draw X_mixed (by decide +kernel) ?_ | refine Zp ?_ | refine ok_block ?_
        | refine ok_skip ?_ | refine ok_ret ?_ | refine x_normal_then ?_ | refine x_ret_then ?_ | refine x_ret_block ?_ | refine Zt ?_
      exact ret_vb hm.symm
    | false =>
      rw [show sameN c d = false from hq, Bool.false_or] at i2
      repeat' first
        | refine Z1 ?_ | refine Z2 ?_ | refine Z5 ?_ | refine Zf ?_ | refine Zw ?_ | refine Zx ?_ | refine Zz (Ze ⟨rfl, rfl⟩) ?_ | refine Zo ?_ | refine ok_seq ?_ | refine ok_reg ?_ | refine ok_draw X_mixed (by decide +kernel) ?_
        | refine Zp ?_ | refine Zq ?_ | refine ok_block ?_ | refine ok_skip ?_ | refine x_normal_then ?_ | refine x_normal_block ?_
      exact ⟨x + 1, ⟨hxk, i2⟩, by (try simp only); omega, low_mk (Nat.le_of_ble_eq_true rfl) ⟨⟨rfl, rfl⟩, ⟨rfl, rfl⟩, ⟨rfl, rfl⟩, ⟨rfl, rfl⟩, trivial⟩ ⟨⟨rfl, rfl⟩, ⟨rfl, rfl⟩, trivial⟩⟩
  have ex : decide ((x : Int) < (k : Int)) = false := decide_eq_false (by omega)
  rw [List.drop_eq_nil_of_le (by rw [List.length_take]; omega)] at i2
  have i2 : false = (cs.take k).any (sameN c) := i2
  rw [if_neg (by rw [← i2]; simp)] at hm
  by_cases h3 : 1000 < ((nmsC c).length : Int)
  · have e3 : decide (1000 < ((nmsC c).length : Int)) = true := decide_eq_true h3
    rw [if_pos h3] at hm
    repeat' first
      | refine Z1 ?_ | refine Z2 ?_ | refine Z5 ?_ | refine Zc (svarsC_ok c hwc) ?_ | refine Zd ?_ | refine Zo ?_ | refine ok_seq ?_ | refine Zp ?_ | refine Zq ?_ | refine ok_exit ?_ | refine ok_ret ?_ | refine x_normal_then ?_
      | refine x_exit_here ?_ | refine Zv ?_ | refine x_ret_then ?_ | refine Zt ?_
    exact ret_vb hm.symm
  have e3 : decide (1000 < ((nmsC c).length : Int)) = false := decide_eq_false h3
  rw [if_neg h3] at hm
  repeat' first
    | refine Z1 ?_ | refine Z2 ?_ | refine Z5 ?_ | refine Zc (svarsC_ok c hwc) ?_ | refine Zd ?_ | refine Zo ?_ | refine ok_seq ?_ | refine Zq ?_ | refine ok_block ?_ | refine ok_exit ?_ | refine ok_skip ?_
    | refine x_normal_then ?_ | refine x_exit_here ?_ | refine Zv ?_
  refine ok_for (ι := Nat) (fun x => envL [(1, vi k), (2, .ref 0 0), (5, .ref 1 0), (7, .d (.im ((nmsC c).map eStr))), (75, .d (.im ((nmsC c).map eStr))), (76, vi (nmsC c).length), (77, vi x)]) (fun x => stL [some (.var [.d (.im (cs.map eCls))]), some (.var ((eCls c).map .d))]) (fun x => x ≤ (nmsC c).length ∧ varsGo (nmsC c) x ((nmsC c).drop x) = varsGo (nmsC c) 0 (nmsC c)) (fun x => (nmsC c).length - x) 0 (⟨Nat.zero_le _, rfl⟩) (weak_mk rfl ⟨.refl _, .refl _, .refl _, .refl _, .refl _, .refl _, .refl _, trivial⟩ ⟨⟨rfl, _, rfl, rfl, fun _ _ _ => .refl _⟩, ⟨rfl, _, rfl, rfl, fun _ _ _ => .refl _⟩, trivial⟩) (fun _ => Nat.le_refl 2) ?_
  rintro x ⟨i1, i2⟩
  rcases hx : (nmsC c)[x]? with _ | y
  rotate_left
  · obtain ⟨hd, hlt⟩ := drop_some hx
    have ek : decide ((x : Int) < ((nmsC c).length : Int)) = true := decide_eq_true (by omega)
    rw [hd] at i2
    simp only [varsGo] at i2
    cases hn : nameS y with
    | false =>
      have n1 : (!nameS y) = true := by rw [hn]; rfl
      rw [if_pos (.inl hn)] at i2
      rw [if_pos i2.symm] at hm
      repeat' first
        | refine Z1 ?_ | refine Z2 ?_ | refine Z5 ?_ | refine Z9 ?_ | refine Zc (sname_ok y) ?_ | refine Ze ?_ | refine Zl ?_ | refine Zo ?_ | refine ok_seq ?_ | refine Zp ?_ | refine ok_block ?_ | refine ok_skip ?_
        | refine ok_ret ?_ | refine x_normal_then ?_ | refine x_ret_then ?_ | refine x_ret_block ?_ | refine Zt ?_
      exact ret_vb hm.symm
    | true =>
      have n1 : (!nameS y) = false := by rw [hn]; rfl
      by_cases hp : placeS y 0 (nmsC c) < (x : Int)
      · have n2 : decide (placeS y 0 (nmsC c) < (x : Int)) = true := decide_eq_true hp
        rw [if_pos (.inr hp)] at i2
        rw [if_pos i2.symm] at hm
        repeat' first
          | refine Z1 ?_ | refine Z2 ?_ | refine Z5 ?_ | refine Z7 ?_ | refine Zc (sname_ok y) ?_ | refine Zc (splace_ok (nmsC c) y hnl) ?_ | refine Ze ?_ | refine Zh ?_ | refine Zi ?_ | refine Zm ?_ | refine Zo ?_
          | refine ok_seq ?_ | refine Zp ?_ | refine ok_block ?_ | refine ok_skip ?_ | refine ok_ret ?_ | refine x_normal_then ?_ | refine x_ret_then ?_ | refine x_ret_block ?_ | refine Zt ?_
        exact ret_vb hm.symm
      · have n2 : decide (placeS y 0 (nmsC c) < (x : Int)) = false := decide_eq_false hp
        rw [if_neg (fun h => h.elim (by rw [hn]; intro h; cases h) hp)] at i2
        repeat' first
          | refine Z1 ?_ | refine Z2 ?_ | refine Z5 ?_ | refine Z7 ?_ | refine Zc (sname_ok y) ?_ | refine Zc (splace_ok (nmsC c) y hnl) ?_ | refine Ze ?_ | refine Zf ?_ | refine Zh ?_ | refine Zi ?_ | refine Zm ?_ | refine Zo ?_
          | refine ok_seq ?_ | refine ok_reg ?_ | refine Zp ?_ | refine Zq ?_ | refine ok_block ?_ | refine ok_skip ?_ | refine x_normal_then ?_ | refine x_normal_block ?_
        exact ⟨x + 1, ⟨hlt, i2⟩, by (try simp only); omega, low_mk (Nat.le_of_ble_eq_true rfl) ⟨⟨rfl, rfl⟩, ⟨rfl, rfl⟩, ⟨rfl, rfl⟩, ⟨rfl, rfl⟩, ⟨rfl, rfl⟩, ⟨rfl, rfl⟩, ⟨rfl, rfl⟩, trivial⟩ ⟨⟨rfl, rfl⟩, ⟨rfl, rfl⟩, trivial⟩⟩
  have hle := none_le hx
  have ek : decide ((x : Int) < ((nmsC c).length : Int)) = false := decide_eq_false (by omega)
  rw [drop_none hx] at i2
  have i2 : true = varsGo (nmsC c) 0 (nmsC c) := i2
  rw [if_neg (by rw [← i2]; simp)] at hm
  repeat' first
    | refine Z1 ?_ | refine Z2 ?_ | refine Zo ?_ | refine ok_seq ?_ | refine Zq ?_ | refine ok_exit ?_ | refine x_normal_then ?_ | refine x_exit_here ?_ | refine Zv ?_
  refine ok_drawE (fun j => j = 1) [0, 3, 6] X_mixed (by decide +kernel) ?_
  refine We (Yw (sz := 2) (rows := []) (n := 2) ⟨rfl, rfl⟩) (.inr (fun j hj => by rw [St.obj_alloc, if_neg (by show ¬ j = 2; omega)])) ?_
  repeat' first
    | refine Wa ?_ | refine Wl (i := 1) rfl rfl ?_
  refine We (Yl (e := eSlt) (l := []) c.ins ⟨rfl, rfl⟩) (.inr (fun j hj => by rw [obj_bumpSet, if_neg (by omega)])) ?_
  repeat' first
    | refine Wa ?_ | refine Wl (i := 1) rfl rfl ?_
  refine We (Yl (e := eSlt) (l := [] ++ c.ins) c.outs ⟨rfl, rfl⟩) (.inr (fun j hj => by rw [obj_bumpSet, if_neg (by omega)])) ?_
  repeat' first
    | refine Wa ?_
  refine Wx ?_
  repeat' first
    | refine ok_block ?_
  refine ok_for (ι := Nat) (fun x => envL [(1, vi k), (2, .ref 0 0), (5, .ref 1 0), (99, .sl 2 4 0 (c.ins ++ c.outs).length), (100, vi (c.ins ++ c.outs).length), (101, vi x)]) (fun x => stL [some (.var [.d (.im (cs.map eCls))]), some (.var ((eCls c).map .d)), some (.row 4 42 2 (im2 eSlt (c.ins ++ c.outs))), none, none]) (fun x => x ≤ (c.ins ++ c.outs).length ∧ ((c.ins ++ c.outs).drop x).all typS = (c.ins ++ c.outs).all typS) (fun x => (c.ins ++ c.outs).length - x) 0 (⟨Nat.zero_le _, rfl⟩) (weak_mk rfl ⟨.refl _, .refl _, .refl _, .refl _, .refl _, .refl _, trivial⟩ ⟨⟨rfl, _, rfl, rfl, fun _ _ _ => .refl _⟩, ⟨rfl, _, rfl, rfl, fun _ _ _ => .refl _⟩, ⟨rfl, _, rfl, rfl, rfl, rfl, rfl⟩, trivial⟩) (fun _ => Nat.le_refl 5) ?_
  rintro x ⟨i1, i2⟩
  have hll : (c.ins ++ c.outs).length ≤ 1048576 := by rw [List.length_append]; omega
  rcases hx : (c.ins ++ c.outs)[x]? with _ | y
  rotate_left
  · obtain ⟨hd, hlt⟩ := drop_some hx
    have ek : decide ((x : Int) < ((c.ins ++ c.outs).length : Int)) = true := decide_eq_true (by omega)
    obtain ⟨a1, a2⟩ := all_of i2 hx
    have hr : (im2 eSlt (c.ins ++ c.outs))[x]? = some ((eSlt y).map .d) := im2_get hx
    by_cases t1 : y.type < 1
    · have u1 : decide (y.type < 1) = true := decide_eq_true t1
      rw [if_pos (a1 (by simp only [typS]; rw [decide_eq_false (by omega)]; rfl))] at hm
      repeat' first
        | refine Z1 ?_ | refine Z2 ?_ | refine Z5 ?_ | refine Z9 ?_ | refine Yf (n := (x : Int)) x rfl hlt ?_ | refine Ye hr ?_ | refine Zl ?_ | refine Zo ?_ | refine ok_seq ?_ | refine Zp ?_ | refine ok_block ?_
        | refine ok_skip ?_ | refine ok_ret ?_ | refine x_normal_then ?_ | refine x_ret_then ?_ | refine x_ret_block ?_ | refine Zt ?_
      exact ret_vb hm.symm
    have u1 : decide (y.type < 1) = false := decide_eq_false t1
    by_cases t2 : 2 < y.type
    · have u2 : decide (2 < y.type) = true := decide_eq_true t2
      rw [if_pos (a1 (by simp only [typS]; rw [decide_eq_false (show ¬ y.type ≤ 2 by omega), Bool.and_false]))] at hm
      repeat' first
        | refine Z1 ?_ | refine Z2 ?_ | refine Z5 ?_ | refine Z7 ?_ | refine Yf (n := (x : Int)) x rfl hlt ?_ | refine Ye hr ?_ | refine Zh ?_ | refine Zi ?_ | refine Zm ?_ | refine Zo ?_ | refine ok_seq ?_ | refine Zp ?_
        | refine ok_block ?_ | refine ok_skip ?_ | refine ok_ret ?_ | refine x_normal_then ?_ | refine x_ret_then ?_ | refine x_ret_block ?_ | refine Zt ?_
      exact ret_vb hm.symm
    have u2 : decide (2 < y.type) = false := decide_eq_false t2
    repeat' first
      | refine Z1 ?_ | refine Z2 ?_ | refine Z5 ?_ | refine Z7 ?_ | refine Yf (n := (x : Int)) x rfl hlt ?_ | refine Ye hr ?_ | refine Zf ?_ | refine Zh ?_ | refine Zi ?_ | refine Zm ?_ | refine Zo ?_ | refine ok_seq ?_
      | refine ok_reg ?_ | refine Zp ?_ | refine Zq ?_ | refine ok_block ?_ | refine ok_skip ?_ | refine x_normal_then ?_ | refine x_normal_block ?_
    exact ⟨x + 1, ⟨hlt, a2 (by simp only [typS]; rw [decide_eq_true (show 1 ≤ y.type by omega), decide_eq_true (show y.type ≤ 2 by omega)]; rfl)⟩, by (try simp only); omega, low_mk (Nat.le_of_ble_eq_true rfl) ⟨⟨rfl, rfl⟩, ⟨rfl, rfl⟩, ⟨rfl, rfl⟩, ⟨rfl, rfl⟩, ⟨rfl, rfl⟩, ⟨rfl, rfl⟩, trivial⟩ ⟨⟨rfl, rfl⟩, ⟨rfl, rfl⟩, ⟨rfl, blt_lt rfl, im2_low _ _ _⟩, trivial⟩⟩
  have hle := none_le hx
  have ek : decide ((x : Int) < ((c.ins ++ c.outs).length : Int)) = false := decide_eq_false (by omega)
  rw [drop_none hx] at i2
  have i2 : true = (c.ins ++ c.outs).all typS := i2
  rw [if_neg (by rw [← i2]; simp)] at hm
  repeat' first
    | refine Z1 ?_ | refine Z2 ?_ | refine Z5 ?_ | refine Zd ?_ | refine Zo ?_ | refine ok_seq ?_ | refine Zq ?_ | refine ok_block ?_ | refine ok_exit ?_ | refine x_normal_then ?_ | refine x_exit_here ?_ | refine Zv ?_
  refine ok_for (ι := Nat) (fun x => envL [(1, vi k), (2, .ref 0 0), (5, .ref 1 0), (115, .d (.im (c.mems.map eNum))), (116, vi c.mems.length), (117, vi x)]) (fun x => stL [some (.var [.d (.im (cs.map eCls))]), some (.var ((eCls c).map .d)), none, none, none]) (fun x => x ≤ c.mems.length ∧ (c.mems.drop x).all fitS = c.mems.all fitS) (fun x => c.mems.length - x) 0 (⟨Nat.zero_le _, rfl⟩) (weak_mk rfl ⟨.refl _, .refl _, .refl _, .refl _, .refl _, .refl _, trivial⟩ ⟨⟨rfl, _, rfl, rfl, fun _ _ _ => .refl _⟩, ⟨rfl, _, rfl, rfl, fun _ _ _ => .refl _⟩, trivial⟩) (fun _ => Nat.le_refl 5) ?_
  rintro x ⟨i1, i2⟩
  rcases hx : c.mems[x]? with _ | v
  rotate_left
  · obtain ⟨hd, hlt⟩ := drop_some hx
    have ek : decide ((x : Int) < (c.mems.length : Int)) = true := decide_eq_true (by omega)
    obtain ⟨a1, a2⟩ := all_of i2 hx
    by_cases t1 : v = wrapS v
    · have u1 : decide (v ≠ wrapS v) = false := decide_eq_false (fun h => h t1)
      repeat' first
        | refine Z1 ?_ | refine Z2 ?_ | refine Z5 ?_ | refine Zc (swrap_ok v) ?_ | refine Ze ?_ | refine Zf ?_ | refine Zo ?_ | refine ok_seq ?_ | refine ok_reg ?_ | refine Zp ?_ | refine Zq ?_ | refine ok_block ?_
        | refine ok_skip ?_ | refine x_normal_then ?_ | refine x_normal_block ?_
      exact ⟨x + 1, ⟨hlt, a2 (decide_eq_true t1)⟩, by (try simp only); omega, low_mk (Nat.le_of_ble_eq_true rfl) ⟨⟨rfl, rfl⟩, ⟨rfl, rfl⟩, ⟨rfl, rfl⟩, ⟨rfl, rfl⟩, ⟨rfl, rfl⟩, ⟨rfl, rfl⟩, trivial⟩ ⟨⟨rfl, rfl⟩, ⟨rfl, rfl⟩, trivial⟩⟩
    · have u1 : decide (v ≠ wrapS v) = true := decide_eq_true t1
      rw [if_pos (a1 (decide_eq_false t1))] at hm
      repeat' first
        | refine Z1 ?_ | refine Z2 ?_ | refine Z5 ?_ | refine Zc (swrap_ok v) ?_ | refine Ze ?_ | refine Zo ?_ | refine ok_seq ?_ | refine Zp ?_ | refine ok_block ?_ | refine ok_skip ?_ | refine ok_ret ?_ | refine x_normal_then ?_
        | refine x_ret_then ?_ | refine x_ret_block ?_ | refine Zt ?_
      exact ret_vb hm.symm
  have hle := none_le hx
  have ek : decide ((x : Int) < (c.mems.length : Int)) = false := decide_eq_false (by omega)
  rw [drop_none hx] at i2
  have i2 : true = c.mems.all fitS := i2
  rw [if_neg (by rw [← i2]; simp)] at hm
  repeat' first
    | refine Z1 ?_ | refine Z2 ?_ | refine Z5 ?_ | refine Zd ?_ | refine Zo ?_ | refine ok_seq ?_ | refine Zq ?_ | refine ok_block ?_ | refine ok_exit ?_ | refine x_normal_then ?_ | refine x_exit_here ?_ | refine Zv ?_
  refine ok_for (ι := Nat) (fun x => envL [(1, vi k), (2, .ref 0 0), (5, .ref 1 0), (127, .d (.im (c.insts.map eNum))), (128, vi c.insts.length), (129, vi x)]) (fun x => stL [some (.var [.d (.im (cs.map eCls))]), some (.var ((eCls c).map .d)), none, none, none]) (fun x => x ≤ c.insts.length ∧ (c.insts.drop x).all (insS k) = c.insts.all (insS k)) (fun x => c.insts.length - x) 0 (⟨Nat.zero_le _, rfl⟩) (weak_mk rfl ⟨.refl _, .refl _, .refl _, .refl _, .refl _, .refl _, trivial⟩ ⟨⟨rfl, _, rfl, rfl, fun _ _ _ => .refl _⟩, ⟨rfl, _, rfl, rfl, fun _ _ _ => .refl _⟩, trivial⟩) (fun _ => Nat.le_refl 5) ?_
  rintro x ⟨i1, i2⟩
  rcases hx : c.insts[x]? with _ | v
  rotate_left
  · obtain ⟨hd, hlt⟩ := drop_some hx
    have ek : decide ((x : Int) < (c.insts.length : Int)) = true := decide_eq_true (by omega)
    obtain ⟨a1, a2⟩ := all_of i2 hx
    by_cases t1 : v < 0
    · have u1 : decide (v < 0) = true := decide_eq_true t1
      rw [if_pos (a1 (by simp only [insS]; rw [decide_eq_false (show ¬ 0 ≤ v by omega)]; rfl))] at hm
      repeat' first
        | refine Z1 ?_ | refine Z2 ?_ | refine Z5 ?_ | refine Z9 ?_ | refine Ze ?_ | refine Zl ?_ | refine Zo ?_ | refine ok_seq ?_ | refine Zp ?_ | refine ok_block ?_ | refine ok_skip ?_ | refine ok_ret ?_
        | refine x_normal_then ?_ | refine x_ret_then ?_ | refine x_ret_block ?_ | refine Zt ?_
      exact ret_vb hm.symm
    have u1 : decide (v < 0) = false := decide_eq_false t1
    by_cases t2 : (k : Int) ≤ v
    · have u2 : decide ((k : Int) ≤ v) = true := decide_eq_true t2
      rw [if_pos (a1 (by simp only [insS]; rw [decide_eq_false (show ¬ v < (k : Int) by omega), Bool.and_false]))] at hm
      repeat' first
        | refine Z1 ?_ | refine Z2 ?_ | refine Z5 ?_ | refine Z7 ?_ | refine Ze ?_ | refine Zh ?_ | refine Zi ?_ | refine Zm ?_ | refine Zo ?_ | refine ok_seq ?_ | refine Zp ?_ | refine ok_block ?_ | refine ok_skip ?_
        | refine ok_ret ?_ | refine x_normal_then ?_ | refine x_ret_then ?_ | refine x_ret_block ?_ | refine Zt ?_
      exact ret_vb hm.symm
    have u2 : decide ((k : Int) ≤ v) = false := decide_eq_false t2
    repeat' first
      | refine Z1 ?_ | refine Z2 ?_ | refine Z5 ?_ | refine Z7 ?_ | refine Ze ?_ | refine Zf ?_ | refine Zh ?_ | refine Zi ?_ | refine Zm ?_ | refine Zo ?_ | refine ok_seq ?_ | refine ok_reg ?_ | refine Zp ?_ | refine Zq ?_
      | refine ok_block ?_ | refine ok_skip ?_ | refine x_normal_then ?_ | refine x_normal_block ?_
    exact ⟨x + 1, ⟨hlt, a2 (by simp only [insS]; rw [decide_eq_true (show 0 ≤ v by omega), decide_eq_true (show v < (k : Int) by omega)]; rfl)⟩, by (try simp only); omega, low_mk (Nat.le_of_ble_eq_true rfl) ⟨⟨rfl, rfl⟩, ⟨rfl, rfl⟩, ⟨rfl, rfl⟩, ⟨rfl, rfl⟩, ⟨rfl, rfl⟩, ⟨rfl, rfl⟩, trivial⟩ ⟨⟨rfl, rfl⟩, ⟨rfl, rfl⟩, trivial⟩⟩
  have hle := none_le hx
  have ek : decide ((x : Int) < (c.insts.length : Int)) = false := decide_eq_false (by omega)
  rw [drop_none hx] at i2
  have i2 : true = c.insts.all (insS k) := i2
  rw [if_neg (by rw [← i2]; simp)] at hm
  have hin : ∀ g ∈ c.insts, 0 ≤ g ∧ g < (k : Int) := fun g hg => by
    have := List.all_eq_true.1 i2.symm g hg
    simpa [insS] using this
  repeat' first
    | refine Z1 ?_ | refine Z2 ?_ | refine Z5 ?_ | refine Zd ?_ | refine Zo ?_ | refine ok_seq ?_ | refine Zq ?_ | refine ok_block ?_ | refine ok_exit ?_ | refine x_normal_then ?_ | refine x_exit_here ?_ | refine Zv ?_
  refine ok_for (ι := Nat) (fun x => envL [(1, vi k), (2, .ref 0 0), (5, .ref 1 0), (142, .d (.im (c.body.map eSm))), (143, vi c.body.length), (144, vi x)]) (fun x => stL [some (.var [.d (.im (cs.map eCls))]), some (.var ((eCls c).map .d)), none, none, none]) (fun x => x ≤ c.body.length ∧ (c.body.drop x).all (stmS cs c) = c.body.all (stmS cs c)) (fun x => c.body.length - x) 0 (⟨Nat.zero_le _, rfl⟩) (weak_mk rfl ⟨.refl _, .refl _, .refl _, .refl _, .refl _, .refl _, trivial⟩ ⟨⟨rfl, _, rfl, rfl, fun _ _ _ => .refl _⟩, ⟨rfl, _, rfl, rfl, fun _ _ _ => .refl _⟩, trivial⟩) (fun _ => Nat.le_refl 5) ?_
  rintro x ⟨i1, i2⟩
  rcases hx : c.body[x]? with _ | s
  rotate_left
  · obtain ⟨hd, hlt⟩ := drop_some hx
    have ek : decide ((x : Int) < (c.body.length : Int)) = true := decide_eq_true (by omega)
    obtain ⟨a1, a2⟩ := all_of i2 hx
    have hst := sstm_ok cs k c s hcl hwc (hws s (List.mem_of_getElem? hx)) hk hin
    cases hq : stmS cs c s with
    | false =>
      have n1 : (!stmS cs c s) = true := by rw [hq]; rfl
      rw [if_pos (a1 hq)] at hm
      repeat' first
        | refine Z1 ?_ | refine Z2 ?_ | refine Z5 ?_ | refine Zc (hst) ?_ | refine Ze ?_ | refine Zo ?_ | refine ok_seq ?_ | refine Zp ?_ | refine ok_block ?_ | refine ok_skip ?_ | refine ok_ret ?_ | refine x_normal_then ?_
        | refine x_ret_then ?_ | refine x_ret_block ?_ | refine Zt ?_
      exact ret_vb hm.symm
    | true =>
      have n1 : (!stmS cs c s) = false := by rw [hq]; rfl
      repeat' first
        | refine Z1 ?_ | refine Z2 ?_ | refine Z5 ?_ | refine Zc (hst) ?_ | refine Ze ?_ | refine Zf ?_ | refine Zo ?_ | refine ok_seq ?_ | refine ok_reg ?_ | refine Zp ?_ | refine Zq ?_ | refine ok_block ?_ | refine ok_skip ?_
        | refine x_normal_then ?_ | refine x_normal_block ?_
      exact ⟨x + 1, ⟨hlt, a2 hq⟩, by (try simp only); omega, low_mk (Nat.le_of_ble_eq_true rfl) ⟨⟨rfl, rfl⟩, ⟨rfl, rfl⟩, ⟨rfl, rfl⟩, ⟨rfl, rfl⟩, ⟨rfl, rfl⟩, ⟨rfl, rfl⟩, trivial⟩ ⟨⟨rfl, rfl⟩, ⟨rfl, rfl⟩, trivial⟩⟩
  have hle := none_le hx
  have ek : decide ((x : Int) < (c.body.length : Int)) = false := decide_eq_false (by omega)
  rw [drop_none hx] at i2
  have i2 : true = c.body.all (stmS cs c) := i2
  rw [if_neg (by rw [← i2]; simp)] at hm
  have hnest := snest_ok c.body.length c.body 0 rfl (by omega) (Int.le_refl _) (by omega)
  cases hnv : nestV c.body 0 with
  | false =>
    have n1 : (!nestV c.body 0) = true := by rw [hnv]; rfl
    rw [if_pos hnv] at hm
    repeat' first
      | refine Z1 ?_ | refine Z2 ?_ | refine Z5 ?_ | refine Zc (hnest) ?_ | refine Zo ?_ | refine ok_seq ?_ | refine Zp ?_ | refine Zq ?_ | refine ok_exit ?_ | refine ok_ret ?_ | refine x_normal_then ?_ | refine x_exit_here ?_
      | refine Zv ?_ | refine x_ret_then ?_ | refine Zt ?_
    exact ret_vb hm.symm
  | true =>
  have n1 : (!nestV c.body 0) = false := by rw [hnv]; rfl
  rw [if_neg (by rw [hnv]; simp)] at hm
  repeat' first
    | refine Z1 ?_ | refine Z2 ?_ | refine Z5 ?_ | refine Zc (hnest) ?_ | refine Zd ?_ | refine Zo ?_ | refine ok_seq ?_ | refine Zq ?_ | refine ok_block ?_ | refine ok_exit ?_ | refine ok_skip ?_ | refine x_normal_then ?_
    | refine x_exit_here ?_ | refine Zv ?_
  refine ok_for (ι := Nat) (fun x => envL [(1, vi k), (2, .ref 0 0), (5, .ref 1 0), (159, .d (.im (c.body.map eSm))), (160, vi c.body.length), (161, vi x)]) (fun x => stL [some (.var [.d (.im (cs.map eCls))]), some (.var ((eCls c).map .d)), none, none, none]) (fun x => x ≤ c.body.length ∧ ∀ j, j < x → withinAt writesS c.body j = true) (fun x => c.body.length - x) 0 (⟨Nat.zero_le _, fun j hj => by omega⟩) (weak_mk rfl ⟨.refl _, .refl _, .refl _, .refl _, .refl _, .refl _, trivial⟩ ⟨⟨rfl, _, rfl, rfl, fun _ _ _ => .refl _⟩, ⟨rfl, _, rfl, rfl, fun _ _ _ => .refl _⟩, trivial⟩) (fun _ => Nat.le_refl 5) ?_
  rintro q ⟨i1, i2⟩
  rcases hx : c.body[q]? with _ | s
  · have hle := none_le hx
    have ek : decide ((q : Int) < (c.body.length : Int)) = false := decide_eq_false (by omega)
    repeat' first
      | refine Z1 ?_ | refine Z2 ?_ | refine Zo ?_ | refine ok_seq ?_ | refine Zq ?_ | refine ok_exit ?_ | refine ok_ret ?_ | refine x_normal_then ?_ | refine x_exit_here ?_ | refine Zv ?_ | refine Zt ?_
    refine ret_vb (Eq.trans ?_ hm.symm)
    symm
    unfold withinS
    rw [List.all_eq_true]
    intro j hj
    exact i2 j (by have := List.mem_range.1 hj; omega)
  obtain ⟨hd, hlt⟩ := drop_some hx
  have ek : decide ((q : Int) < (c.body.length : Int)) = true := decide_eq_true (by omega)
  have nxt : withinAt writesS c.body q = true → ∀ j, j < q + 1 → withinAt writesS c.body j = true := by
    intro h j hj
    rcases Nat.lt_or_ge j q with h1 | h1
    · exact i2 j h1
    · rw [show j = q by omega]; exact h
  by_cases k4 : s.kind = 4
  · have d4 : decide (s.kind = 4) = true := decide_eq_true k4
    have hps := sparts_ok c.body q i1 (by omega)
    have hwq : withinAt writesS c.body q = !(((c.body.drop q).take ((partsS c.body q).2.toNat - q)).any fun t => writesS t s.name) := by
      unfold withinAt; rw [hx]; simp only [k4, if_true]
    rcases hp : partsS c.body q with ⟨O, E⟩
    have hEl := parts_lt hx k4 hp
    rw [hp] at hps hwq
    dsimp only at hwq
    repeat' first
      | refine Z1 ?_ | refine Z2 ?_ | refine Z5 ?_ | refine Zc (hps) ?_ | refine Ze ?_ | refine Zo ?_ | refine ok_seq ?_ | refine Zp ?_ | refine ok_block ?_ | refine ok_skip ?_ | refine x_normal_then ?_
    refine ok_for (ι := Nat) (fun x => envL [(1, vi k), (2, .ref 0 0), (5, .ref 1 0), (159, .d (.im (c.body.map eSm))), (160, vi c.body.length), (161, vi q), (19, .ref 5 0), (21, vi E), (22, vi x)]) (fun x => stL [some (.var [.d (.im (cs.map eCls))]), some (.var ((eCls c).map .d)), none, none, none, some (.var ((eSm s).map .d))]) (fun x => x ≤ c.body.length ∧ (((c.body.drop x).take (E.toNat - x)).any fun t => writesS t s.name) = (((c.body.drop q).take (E.toNat - q)).any fun t => writesS t s.name)) (fun x => c.body.length - x) q (⟨i1, rfl⟩) (weak_mk rfl ⟨.refl _, .refl _, .refl _, .refl _, .refl _, .refl _, .refl _, .refl _, .refl _, trivial⟩ ⟨⟨rfl, _, rfl, rfl, fun _ _ _ => .refl _⟩, ⟨rfl, _, rfl, rfl, fun _ _ _ => .refl _⟩, ⟨rfl, _, rfl, rfl, fun _ _ _ => .refl _⟩, trivial⟩) (fun _ => Nat.le_refl 6) ?_
    rintro x ⟨j1, j2⟩
    by_cases hxe : (x : Int) < E
    · have ee : decide ((x : Int) < E) = true := decide_eq_true hxe
      obtain ⟨t, ht⟩ : ∃ t, c.body[x]? = some t := ⟨c.body[x]'(by omega), List.getElem?_eq_getElem (by omega)⟩
      obtain ⟨hdt, hlt2⟩ := drop_some ht
      rw [hdt, show E.toNat - x = (E.toNat - (x + 1)) + 1 by omega, List.take_succ_cons, List.any_cons] at j2
      have hwt := swrites_ok t s.name (hws t (List.mem_of_getElem? ht))
      cases hq : writesS t s.name with
      | true =>
        rw [hq, Bool.true_or] at j2
        have hf : withinAt writesS c.body q = false := by rw [hwq, ← j2]; rfl
        have hm : classS cs k c = false := by
          rw [hm]
          cases hz : withinS writesS c.body with
          | false => rfl
          | true =>
            have := List.all_eq_true.1 hz q (List.mem_range.2 hlt)
            rw [hf] at this; cases this
        repeat' first
          | refine Z1 ?_ | refine Z2 ?_ | refine Zw ?_ | refine Zx ?_ | refine Zz (Zc (hwt) ⟨rfl, rfl⟩) ?_ | refine Zz (Ze ⟨rfl, rfl⟩) ?_ | refine Zo ?_ | refine ok_seq ?_ | refine ok_draw X_mixed (by decide +kernel) ?_
          | refine Zp ?_ | refine ok_block ?_ | refine ok_skip ?_ | refine ok_ret ?_ | refine x_normal_then ?_ | refine x_ret_then ?_ | refine x_ret_block ?_ | refine Zt ?_
        exact ret_vb hm.symm
      | false =>
        rw [hq, Bool.false_or] at j2
        repeat' first
          | refine Z1 ?_ | refine Z2 ?_ | refine Z5 ?_ | refine Zf ?_ | refine Zw ?_ | refine Zx ?_ | refine Zz (Zc (hwt) ⟨rfl, rfl⟩) ?_ | refine Zz (Ze ⟨rfl, rfl⟩) ?_ | refine Zo ?_ | refine ok_seq ?_ | refine ok_reg ?_
          | refine ok_draw X_mixed (by decide +kernel) ?_ | refine Zp ?_ | refine Zq ?_ | refine ok_block ?_ | refine ok_skip ?_ | refine x_normal_then ?_ | refine x_normal_block ?_
        exact ⟨x + 1, ⟨hlt2, j2⟩, by (try simp only); omega, low_mk (Nat.le_of_ble_eq_true rfl) ⟨⟨rfl, rfl⟩, ⟨rfl, rfl⟩, ⟨rfl, rfl⟩, ⟨rfl, rfl⟩, ⟨rfl, rfl⟩, ⟨rfl, rfl⟩, ⟨rfl, rfl⟩, ⟨rfl, rfl⟩, ⟨rfl, rfl⟩, trivial⟩ ⟨⟨rfl, rfl⟩, ⟨rfl, rfl⟩, ⟨rfl, rfl⟩, trivial⟩⟩
    have ee : decide ((x : Int) < E) = false := decide_eq_false hxe
    rw [show E.toNat - x = 0 by omega, List.take_zero] at j2
    have hg := nxt (by rw [hwq, ← j2]; rfl)
    repeat' first
      | refine Z1 ?_ | refine Z2 ?_ | refine Z5 ?_ | refine Zf ?_ | refine Zo ?_ | refine ok_seq ?_ | refine ok_reg ?_ | refine Zq ?_ | refine ok_exit ?_ | refine x_normal_then ?_ | refine x_exit_here ?_ | refine Zv ?_
      | refine x_normal_block ?_
    exact ⟨q + 1, ⟨hlt, hg⟩, by (try simp only); omega, low_mk (Nat.le_of_ble_eq_true rfl) ⟨⟨rfl, rfl⟩, ⟨rfl, rfl⟩, ⟨rfl, rfl⟩, ⟨rfl, rfl⟩, ⟨rfl, rfl⟩, ⟨rfl, rfl⟩, trivial⟩ ⟨⟨rfl, rfl⟩, ⟨rfl, rfl⟩, trivial⟩⟩
  have d4 : decide (s.kind = 4) = false := decide_eq_false k4
  have hg := nxt (by unfold withinAt; rw [hx]; simp only [k4, if_false])
  repeat' first
    | refine Z1 ?_ | refine Z2 ?_ | refine Z5 ?_ | refine Ze ?_ | refine Zf ?_ | refine Zo ?_ | refine ok_seq ?_ | refine ok_reg ?_ | refine Zp ?_ | refine Zq ?_ | refine ok_block ?_ | refine ok_skip ?_ | refine x_normal_then ?_
    | refine x_normal_block ?_
  exact ⟨q + 1, ⟨hlt, hg⟩, by (try simp only); omega, low_mk (Nat.le_of_ble_eq_true rfl) ⟨⟨rfl, rfl⟩, ⟨rfl, rfl⟩, ⟨rfl, rfl⟩, ⟨rfl, rfl⟩, ⟨rfl, rfl⟩, ⟨rfl, rfl⟩, trivial⟩ ⟨⟨rfl, rfl⟩, ⟨rfl, rfl⟩, trivial⟩⟩
end Go.Pm
