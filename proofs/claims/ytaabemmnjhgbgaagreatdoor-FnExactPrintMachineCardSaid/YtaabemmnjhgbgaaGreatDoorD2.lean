/- Machines: the functions that the laws name, and the laws. -/
import Derived.Test.YtaabemmnjhgbgaaGreatDoorD1
import Derived.Test.YtaabemmnjhgbgaaGreatDoorB9
import Derived.Test.YtaabemmnjhgbgaaGreatDoorB6
set_option linter.unusedVariables false
set_option linter.unusedSimpArgs false
namespace Go.Pm
attribute [local irreducible] AR Ok inBlock andThen endQ aoper
set_option maxHeartbeats 4000000
open Go.Proofs
theorem class_good {cs : List Cls} {k : Nat} {c : Cls} (h : classS cs k c = true) : goodC k c := by
  obtain ⟨_, _, _, _, _, _, h1, h2, h3, _⟩ := (classS_iff cs k c).1 h
  refine ⟨?_, fun g hg => ?_, fun s hs k3 => ?_⟩
  · unfold nestV at h3
    cases hq : growI c.body with
    | none => rw [hq] at h3; cases h3
    | some R => exact ⟨R, rfl⟩
  · have := List.all_eq_true.1 h1 g hg
    simpa [insS] using this
  · have := List.all_eq_true.1 h2 s hs
    unfold stmS at this
    split at this; · cases this
    split at this; · cases this
    split at this; · cases this
    split at this; · cases this
    simp only [k3] at this
    simp at this
    exact this.1
theorem smok_ok (cs : List Cls) (hw : wL wCls cs ≤ 1048576) : PFun X 10 [.agg [.d (.im (cs.map eCls))]] (vb (mokS cs)) := by
  have hcl : cs.length ≤ 1048576 := by simp only [wL] at hw; omega
  have hm : mokS cs = mokS cs := rfl
  conv at hm => rhs; unfold mokS
  refine pfun_of Tryz.func10 rfl (by decide) Tryz.ntmps10 Tryz.results10 (by simp) rfl rfl ?_
  by_cases hb : (cs.length : Int) < 1 ∨ 200 < (cs.length : Int)
  · rw [if_pos hb] at hm
    by_cases h1 : (cs.length : Int) < 1
    · have e1 : decide ((cs.length : Int) < 1) = true := decide_eq_true h1
      repeat' first
        | refine Z1 ?_ | refine Z2 ?_ | refine Z5 ?_ | refine Z9 ?_ | refine Zd ?_ | refine Zl ?_ | refine Zo ?_ | refine ok_seq ?_ | refine Zp ?_ | refine ok_ret ?_ | refine x_ret_then ?_ | refine Zt ?_
      exact ret_vb hm.symm
    · have e1 : decide ((cs.length : Int) < 1) = false := decide_eq_false h1
      have e2 : decide (200 < (cs.length : Int)) = true := decide_eq_true (by omega)
      repeat' first
        | refine Z1 ?_ | refine Z2 ?_ | refine Z5 ?_ | refine Z7 ?_ | refine Zd ?_ | refine Zh ?_ | refine Zi ?_ | refine Zm ?_ | refine Zo ?_ | refine ok_seq ?_ | refine Zp ?_ | refine ok_ret ?_ | refine x_ret_then ?_
        | refine Zt ?_
      exact ret_vb hm.symm
  have e1 : decide ((cs.length : Int) < 1) = false := decide_eq_false (by omega)
  have e2 : decide (200 < (cs.length : Int)) = false := decide_eq_false (by omega)
  rw [if_neg hb] at hm
  repeat' first
    | refine Z1 ?_ | refine Z2 ?_ | refine Z5 ?_ | refine Z7 ?_ | refine Zd ?_ | refine Zh ?_ | refine Zi ?_ | refine Zm ?_ | refine Zo ?_ | refine ok_seq ?_ | refine Zq ?_ | refine ok_block ?_ | refine ok_skip ?_
    | refine x_normal_then ?_
  refine ok_for (ι := Nat) (fun x => envL [(1, .ref 0 0), (20, vi cs.length), (21, vi x)]) (fun x => stL [some (.var [.d (.im (cs.map eCls))])]) (fun x => x ≤ cs.length ∧ ∀ j, j < x → classAt cs j = true) (fun x => cs.length - x) 0 (⟨Nat.zero_le _, fun j hj => by omega⟩) (weak_mk rfl ⟨.refl _, .refl _, .refl _, trivial⟩ ⟨⟨rfl, _, rfl, rfl, fun _ _ _ => .refl _⟩, trivial⟩) (fun _ => Nat.le_refl 1) ?_
  rintro k ⟨i1, i2⟩
  by_cases hk : k < cs.length
  · obtain ⟨c, hx⟩ : ∃ c, cs[k]? = some c := ⟨cs[k], List.getElem?_eq_getElem hk⟩
    have ek : decide ((k : Int) < (cs.length : Int)) = true := decide_eq_true (by omega)
    have hcls := sclass_ok cs k c hx hw
    have hca : classAt cs k = classS cs k c := by unfold classAt; rw [hx]
    cases hq : classS cs k c with
    | false =>
      have n1 : (!classS cs k c) = true := by rw [hq]; rfl
      have hf : (List.range cs.length).all (classAt cs) = false := by
        cases hz : (List.range cs.length).all (classAt cs) with
        | false => rfl
        | true => rw [← hq, (at_iff cs).1 hz k c hx]
      rw [if_pos hf] at hm
      repeat' first
        | refine Z1 ?_ | refine Z2 ?_ | refine Z5 ?_ | refine Zc (hcls) ?_ | refine Zo ?_ | refine ok_seq ?_ | refine Zp ?_ | refine ok_block ?_ | refine ok_skip ?_ | refine ok_ret ?_ | refine x_normal_then ?_
        | refine x_ret_then ?_ | refine x_ret_block ?_ | refine Zt ?_
      exact ret_vb hm.symm
    | true =>
      have n1 : (!classS cs k c) = false := by rw [hq]; rfl
      have hg : ∀ j, j < k + 1 → classAt cs j = true := by
        intro j hj
        rcases Nat.lt_or_ge j k with h | h
        · exact i2 j h
        · rw [show j = k by omega, hca, hq]
      repeat' first
        | refine Z1 ?_ | refine Z2 ?_ | refine Z5 ?_ | refine Zc (hcls) ?_ | refine Zf ?_ | refine Zo ?_ | refine ok_seq ?_ | refine ok_reg ?_ | refine Zp ?_ | refine Zq ?_ | refine ok_block ?_ | refine ok_skip ?_
        | refine x_normal_then ?_ | refine x_normal_block ?_
      exact ⟨k + 1, ⟨hk, hg⟩, by (try simp only); omega, low_mk (Nat.le_of_ble_eq_true rfl) ⟨⟨rfl, rfl⟩, ⟨rfl, rfl⟩, ⟨rfl, rfl⟩, trivial⟩ ⟨⟨rfl, rfl⟩, trivial⟩⟩
  have ek : decide ((k : Int) < (cs.length : Int)) = false := decide_eq_false (by omega)
  have hall : (List.range cs.length).all (classAt cs) = true := by
    rw [List.all_eq_true]
    intro j hj
    exact i2 j (by have := List.mem_range.1 hj; omega)
  rw [if_neg (by rw [hall]; simp)] at hm
  have hgd : ∀ (k : Nat) (c : Cls), cs[k]? = some c → goodC k c := fun k c hx => class_good ((at_iff cs).1 hall k c hx)
  have hcell := scells_ok cs hw (fun k c hx => (hgd k c hx).2.1)
  have hbnd := sbounds_ok cs hw hgd
  have hcn : (cellsS cs).length = cs.length := by unfold cellsS; rw [cellsGo_len]; simp
  have hbn : (boundsS cs).length = cs.length := by unfold boundsS; rw [boundsGo_len]; simp
  repeat' first
    | refine Z1 ?_ | refine Z2 ?_ | refine Z5 ?_ | refine Zc (hcell) ?_ | refine Zd ?_ | refine Zo ?_ | refine ok_seq ?_ | refine Zq ?_ | refine ok_block ?_ | refine ok_exit ?_ | refine x_normal_then ?_ | refine x_exit_here ?_
    | refine Zv ?_
  refine ok_for (ι := Nat) (fun x => envL [(1, .ref 0 0), (30, .d (.im ((cellsS cs).map eNum))), (31, vi (cellsS cs).length), (32, vi x)]) (fun x => stL [some (.var [.d (.im (cs.map eCls))])]) (fun x => x ≤ (cellsS cs).length ∧ ((cellsS cs).drop x).all (fun z => decide (z ≤ 20000)) = (cellsS cs).all (fun z => decide (z ≤ 20000))) (fun x => (cellsS cs).length - x) 0 (⟨Nat.zero_le _, rfl⟩) (weak_mk rfl ⟨.refl _, .refl _, .refl _, .refl _, trivial⟩ ⟨⟨rfl, _, rfl, rfl, fun _ _ _ => .refl _⟩, trivial⟩) (fun _ => Nat.le_refl 1) ?_
  rintro x ⟨i1, i2⟩
  rcases hx : (cellsS cs)[x]? with _ | v
  rotate_left
  · obtain ⟨hd, hlt⟩ := drop_some hx
    have ek : decide ((x : Int) < ((cellsS cs).length : Int)) = true := decide_eq_true (by omega)
    obtain ⟨a1, a2⟩ := all_of i2 hx
    by_cases t1 : 20000 < v
    · have u1 : decide (20000 < v) = true := decide_eq_true t1
      rw [if_pos (a1 (decide_eq_false (by omega)))] at hm
      repeat' first
        | refine Z1 ?_ | refine Z2 ?_ | refine Z5 ?_ | refine Ze ?_ | refine Zo ?_ | refine ok_seq ?_ | refine Zp ?_ | refine ok_block ?_ | refine ok_skip ?_ | refine ok_ret ?_ | refine x_normal_then ?_ | refine x_ret_then ?_
        | refine x_ret_block ?_ | refine Zt ?_
      exact ret_vb hm.symm
    · have u1 : decide (20000 < v) = false := decide_eq_false t1
      repeat' first
        | refine Z1 ?_ | refine Z2 ?_ | refine Z5 ?_ | refine Ze ?_ | refine Zf ?_ | refine Zo ?_ | refine ok_seq ?_ | refine ok_reg ?_ | refine Zp ?_ | refine Zq ?_ | refine ok_block ?_ | refine ok_skip ?_
        | refine x_normal_then ?_ | refine x_normal_block ?_
      exact ⟨x + 1, ⟨hlt, a2 (decide_eq_true (by omega))⟩, by (try simp only); omega, low_mk (Nat.le_of_ble_eq_true rfl) ⟨⟨rfl, rfl⟩, ⟨rfl, rfl⟩, ⟨rfl, rfl⟩, ⟨rfl, rfl⟩, trivial⟩ ⟨⟨rfl, rfl⟩, trivial⟩⟩
  have hle := none_le hx
  have ek : decide ((x : Int) < ((cellsS cs).length : Int)) = false := decide_eq_false (by omega)
  rw [drop_none hx] at i2
  rw [if_neg (by rw [← i2]; simp)] at hm
  repeat' first
    | refine Z1 ?_ | refine Z2 ?_ | refine Z5 ?_ | refine Zc (hbnd) ?_ | refine Zd ?_ | refine Zo ?_ | refine ok_seq ?_ | refine Zq ?_ | refine ok_block ?_ | refine ok_exit ?_ | refine x_normal_then ?_ | refine x_exit_here ?_
    | refine Zv ?_
  refine ok_for (ι := Nat) (fun x => envL [(1, .ref 0 0), (40, .d (.im ((boundsS cs).map eNum))), (41, vi (boundsS cs).length), (42, vi x)]) (fun x => stL [some (.var [.d (.im (cs.map eCls))])]) (fun x => x ≤ (boundsS cs).length ∧ ((boundsS cs).drop x).all (fun z => decide (z ≤ 400000)) = (boundsS cs).all (fun z => decide (z ≤ 400000))) (fun x => (boundsS cs).length - x) 0 (⟨Nat.zero_le _, rfl⟩) (weak_mk rfl ⟨.refl _, .refl _, .refl _, .refl _, trivial⟩ ⟨⟨rfl, _, rfl, rfl, fun _ _ _ => .refl _⟩, trivial⟩) (fun _ => Nat.le_refl 1) ?_
  rintro x ⟨i1, i2⟩
  rcases hx : (boundsS cs)[x]? with _ | v
  rotate_left
  · obtain ⟨hd, hlt⟩ := drop_some hx
    have ek : decide ((x : Int) < ((boundsS cs).length : Int)) = true := decide_eq_true (by omega)
    obtain ⟨a1, a2⟩ := all_of i2 hx
    by_cases t1 : 400000 < v
    · have u1 : decide (400000 < v) = true := decide_eq_true t1
      have hm := hm.trans (a1 (decide_eq_false (by omega)))
      repeat' first
        | refine Z1 ?_ | refine Z2 ?_ | refine Z5 ?_ | refine Ze ?_ | refine Zo ?_ | refine ok_seq ?_ | refine Zp ?_ | refine ok_block ?_ | refine ok_skip ?_ | refine ok_ret ?_ | refine x_normal_then ?_ | refine x_ret_then ?_
        | refine x_ret_block ?_ | refine Zt ?_
      exact ret_vb hm.symm
    · have u1 : decide (400000 < v) = false := decide_eq_false t1
      repeat' first
        | refine Z1 ?_ | refine Z2 ?_ | refine Z5 ?_ | refine Ze ?_ | refine Zf ?_ | refine Zo ?_ | refine ok_seq ?_ | refine ok_reg ?_ | refine Zp ?_ | refine Zq ?_ | refine ok_block ?_ | refine ok_skip ?_
        | refine x_normal_then ?_ | refine x_normal_block ?_
      exact ⟨x + 1, ⟨hlt, a2 (decide_eq_true (by omega))⟩, by (try simp only); omega, low_mk (Nat.le_of_ble_eq_true rfl) ⟨⟨rfl, rfl⟩, ⟨rfl, rfl⟩, ⟨rfl, rfl⟩, ⟨rfl, rfl⟩, trivial⟩ ⟨⟨rfl, rfl⟩, trivial⟩⟩
  have hle := none_le hx
  have ek : decide ((x : Int) < ((boundsS cs).length : Int)) = false := decide_eq_false (by omega)
  rw [drop_none hx] at i2
  have i2 : true = (boundsS cs).all (fun z => decide (z ≤ 400000)) := i2
  rw [← i2] at hm
  repeat' first
    | refine Z1 ?_ | refine Z2 ?_ | refine Zo ?_ | refine ok_seq ?_ | refine Zq ?_ | refine ok_exit ?_ | refine ok_ret ?_ | refine x_normal_then ?_ | refine x_exit_here ?_ | refine Zv ?_ | refine Zt ?_
  exact ret_vb hm.symm
theorem mok_ok (cs : List Cls) (hw : wL wCls cs ≤ 1048576) : PFun X 15 [.agg [.d (.im (cs.map eCls))]] (vb (mokS cs)) := by
  obtain ⟨m1, m2⟩ := m_eq cs
  have hms := measured_ok cs hw
  refine pfun_of Tryz.func15 rfl (by decide) Tryz.ntmps15 Tryz.results15 (by simp) rfl rfl ?_
  cases hq : mokS cs with
  | true =>
    rw [m1 hq] at hms
    repeat' first
      | refine Z1 ?_ | refine Z2 ?_ | refine Z5 ?_ | refine Zc (hms) ?_ | refine Zo ?_ | refine ok_ret ?_ | refine Zt ?_
    rfl
  | false =>
    rw [m2 hq] at hms
    repeat' first
      | refine Z1 ?_ | refine Z2 ?_ | refine Z5 ?_ | refine Zc (hms) ?_ | refine Zo ?_ | refine ok_ret ?_ | refine Zt ?_
    rfl
end Go.Pm
