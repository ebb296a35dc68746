/- The laws' size functions (printed by gen_sz.py). -/
import Derived.Test.YtaabemmnjhgbgaaGreatDoorB1
import Derived.Test.YtaabemmnjhgbgaaGreatDoorA4
set_option linter.unusedVariables false
set_option linter.unusedSimpArgs false
namespace Go.Pm
attribute [local irreducible] AR Ok inBlock andThen endQ aoper
set_option maxHeartbeats 1000000
open Go.Proofs

theorem szItem_ok (x : Itm) (left : Int) (h0 : 0 ≤ left) (h1 : left ≤ 1048576) (hd : dItm x) : PFun X 100 [.agg ((eItm x).map .d), vi left] (vi (subI left (wItm x))) := by
  have hd0 := hd
  have hd0 : x.name.size ≤ 9223372036854775807 := hd0
  refine pfun_of Tryz.func100 rfl (by decide) Tryz.ntmps100 Tryz.results100 (by simp) rfl rfl ?_
  by_cases hn0 : left - (x.name.size : Int) < 0
  · have en0 : decide (left - (x.name.size : Int) < 0) = true := decide_eq_true hn0
    repeat' first
      | refine Z1 ?_ | refine Z2 ?_ | refine Z5 ?_ | refine Zg ?_ | refine Zo ?_ | refine ok_seq ?_ | refine Zp ?_ | refine ok_ret ?_ | refine x_ret_then ?_ | refine Zt ?_
    exact ret_vi (by rw [subI_over (by simp only [wItm]; omega)])
  have en0 : decide (left - (x.name.size : Int) < 0) = false := decide_eq_false hn0
  repeat' first
    | refine Z1 ?_ | refine Z2 ?_ | refine Z5 ?_ | refine Zg ?_ | refine Zo ?_ | refine ok_seq ?_ | refine Zq ?_ | refine ok_skip ?_ | refine ok_ret ?_ | refine x_normal_then ?_ | refine Zt ?_
  exact ret_vi (by rw [subI_in (left := left) (n := wItm x) (by simp only [wItm]; omega)]; (simp only [wItm] <;> omega))

theorem szItemS_ok (l : List (Itm)) (left : Int) (h0 : 0 ≤ left) (h1 : left ≤ 1048576) (hd : dL (dItm) l) : PFun X 84 [.d (.im (l.map eItm)), vi left] (vi (subI left (wL (wItm) l))) := by
  obtain ⟨hd1, hd2⟩ := hd
  simp only [mx] at hd1
  refine pfun_of Tryz.func84 rfl (by decide) Tryz.ntmps84 Tryz.results84 (by simp) rfl rfl ?_
  by_cases hlt : left - (l.length : Int) < 0
  · have e1 : decide (left - (l.length : Int) < 0) = true := decide_eq_true hlt
    repeat' first
      | refine Z1 ?_ | refine Z2 ?_ | refine Z5 ?_ | refine Zd ?_ | refine Zg ?_ | refine Zo ?_ | refine ok_seq ?_ | refine Zp ?_ | refine ok_ret ?_ | refine x_ret_then ?_ | refine Zt ?_
    exact ret_vi (by rw [subI_over (by simp only [wL]; omega)])
  · have e1 : decide (left - (l.length : Int) < 0) = false := decide_eq_false hlt
    repeat' first
      | refine Z1 ?_ | refine Z2 ?_ | refine Z5 ?_ | refine Zd ?_ | refine Zg ?_ | refine Zo ?_ | refine ok_seq ?_ | refine Zq ?_ | refine ok_block ?_ | refine ok_skip ?_ | refine x_normal_then ?_
    refine ok_for (ι := Nat × Int) (fun x => envL [(0, .d (.im (l.map eItm))), (1, vi x.2), (4, vi 0), (5, vi x.1)]) (fun x => stL []) (fun x => x.1 ≤ l.length ∧ 0 ≤ x.2 ∧ x.2 ≤ left ∧ subI x.2 ((l.drop x.1).map (wItm)).sum = subI left (wL (wItm) l)) (fun x => l.length - x.1) (0, left - l.length) (⟨Nat.zero_le _, by simp only; omega, by simp only; omega, by simp only [List.drop_zero]; rw [subI_add (by omega)]; rfl⟩) (weak_mk rfl ⟨.refl _, .refl _, .refl _, .refl _, trivial⟩ trivial) (fun _ => Nat.le_refl 0) ?_
    rintro ⟨k, lf⟩ ⟨i1, i2, i3, i4⟩
    simp only at i1 i2 i3 i4
    rcases hx : l[k]? with _ | x
    · have hle := none_le hx
      have ek : decide ((k : Int) < (l.length : Int)) = false := decide_eq_false (by omega)
      rw [drop_none hx] at i4
      repeat' first
        | refine Z1 ?_ | refine Z2 ?_ | refine Z5 ?_ | refine Zd ?_ | refine Zo ?_ | refine ok_seq ?_ | refine Zq ?_ | refine ok_exit ?_ | refine ok_ret ?_ | refine x_normal_then ?_ | refine x_exit_here ?_ | refine Zv ?_
        | refine Zt ?_
      exact ret_vi (by rw [← i4]; simp [subI]; omega)
    · obtain ⟨hdr, hlt2⟩ := drop_some hx
      have ek : decide ((k : Int) < (l.length : Int)) = true := decide_eq_true (by omega)
      rw [hdr, List.map_cons, List.sum_cons] at i4
      have hdx := hd2 x (List.mem_of_getElem? hx)
      by_cases hn : subI lf (wItm x) < 0
      · have en : decide (subI lf (wItm x) < 0) = true := decide_eq_true hn
        obtain ⟨hn1, hn2⟩ := subI_neg hn
        repeat' first
          | refine Z1 ?_ | refine Z2 ?_ | refine Z5 ?_ | refine Zc (szItem_ok x lf i2 (by omega) hdx) ?_ | refine Zd ?_ | refine Ze ?_ | refine Zo ?_ | refine ok_seq ?_ | refine Zp ?_ | refine ok_block ?_ | refine ok_skip ?_
          | refine ok_ret ?_ | refine x_normal_then ?_ | refine x_ret_then ?_ | refine x_ret_block ?_ | refine Zt ?_
        exact ret_vi (by rw [← i4, subI_over (by omega)])
      · have en : decide (subI lf (wItm x) < 0) = false := decide_eq_false hn
        obtain ⟨hn1, hn2⟩ := subI_pos hn i2
        repeat' first
          | refine Z1 ?_ | refine Z2 ?_ | refine Z5 ?_ | refine Zc (szItem_ok x lf i2 (by omega) hdx) ?_ | refine Zd ?_ | refine Ze ?_ | refine Zf ?_ | refine Zo ?_ | refine ok_seq ?_ | refine ok_reg ?_ | refine Zp ?_
          | refine Zq ?_ | refine ok_block ?_ | refine ok_skip ?_ | refine x_normal_then ?_ | refine x_normal_block ?_
        exact ⟨(k + 1, subI lf (wItm x)), ⟨by simp only; omega, by simp only; omega, by simp only; omega, by simp only; rw [hn2, subI_add hn1]; exact i4⟩, by (try simp only); omega, low_mk (Nat.zero_le _) ⟨⟨rfl, rfl⟩, ⟨rfl, rfl⟩, ⟨rfl, rfl⟩, ⟨rfl, rfl⟩, trivial⟩ trivial⟩

theorem szItemSS_ok (l : List (List Itm)) (left : Int) (h0 : 0 ≤ left) (h1 : left ≤ 1048576) (hd : dL (dL dItm) l) : PFun X 85 [.d (.im (l.map eItms)), vi left] (vi (subI left (wL (wL wItm) l))) := by
  obtain ⟨hd1, hd2⟩ := hd
  simp only [mx] at hd1
  refine pfun_of Tryz.func85 rfl (by decide) Tryz.ntmps85 Tryz.results85 (by simp) rfl rfl ?_
  by_cases hlt : left - (l.length : Int) < 0
  · have e1 : decide (left - (l.length : Int) < 0) = true := decide_eq_true hlt
    repeat' first
      | refine Z1 ?_ | refine Z2 ?_ | refine Z5 ?_ | refine Zd ?_ | refine Zg ?_ | refine Zo ?_ | refine ok_seq ?_ | refine Zp ?_ | refine ok_ret ?_ | refine x_ret_then ?_ | refine Zt ?_
    exact ret_vi (by rw [subI_over (by simp only [wL]; omega)])
  · have e1 : decide (left - (l.length : Int) < 0) = false := decide_eq_false hlt
    repeat' first
      | refine Z1 ?_ | refine Z2 ?_ | refine Z5 ?_ | refine Zd ?_ | refine Zg ?_ | refine Zo ?_ | refine ok_seq ?_ | refine Zq ?_ | refine ok_block ?_ | refine ok_skip ?_ | refine x_normal_then ?_
    refine ok_for (ι := Nat × Int) (fun x => envL [(0, .d (.im (l.map eItms))), (1, vi x.2), (4, vi 0), (5, vi x.1)]) (fun x => stL []) (fun x => x.1 ≤ l.length ∧ 0 ≤ x.2 ∧ x.2 ≤ left ∧ subI x.2 ((l.drop x.1).map (wL wItm)).sum = subI left (wL (wL wItm) l)) (fun x => l.length - x.1) (0, left - l.length) (⟨Nat.zero_le _, by simp only; omega, by simp only; omega, by simp only [List.drop_zero]; rw [subI_add (by omega)]; rfl⟩) (weak_mk rfl ⟨.refl _, .refl _, .refl _, .refl _, trivial⟩ trivial) (fun _ => Nat.le_refl 0) ?_
    rintro ⟨k, lf⟩ ⟨i1, i2, i3, i4⟩
    simp only at i1 i2 i3 i4
    rcases hx : l[k]? with _ | x
    · have hle := none_le hx
      have ek : decide ((k : Int) < (l.length : Int)) = false := decide_eq_false (by omega)
      rw [drop_none hx] at i4
      repeat' first
        | refine Z1 ?_ | refine Z2 ?_ | refine Z5 ?_ | refine Zd ?_ | refine Zo ?_ | refine ok_seq ?_ | refine Zq ?_ | refine ok_exit ?_ | refine ok_ret ?_ | refine x_normal_then ?_ | refine x_exit_here ?_ | refine Zv ?_
        | refine Zt ?_
      exact ret_vi (by rw [← i4]; simp [subI]; omega)
    · obtain ⟨hdr, hlt2⟩ := drop_some hx
      have ek : decide ((k : Int) < (l.length : Int)) = true := decide_eq_true (by omega)
      rw [hdr, List.map_cons, List.sum_cons] at i4
      have hdx := hd2 x (List.mem_of_getElem? hx)
      by_cases hn : subI lf (wL wItm x) < 0
      · have en : decide (subI lf (wL wItm x) < 0) = true := decide_eq_true hn
        obtain ⟨hn1, hn2⟩ := subI_neg hn
        repeat' first
          | refine Z1 ?_ | refine Z2 ?_ | refine Z5 ?_ | refine Zc (szItemS_ok x lf i2 (by omega) hdx) ?_ | refine Zd ?_ | refine Ze ?_ | refine Zo ?_ | refine ok_seq ?_ | refine Zp ?_ | refine ok_block ?_ | refine ok_skip ?_
          | refine ok_ret ?_ | refine x_normal_then ?_ | refine x_ret_then ?_ | refine x_ret_block ?_ | refine Zt ?_
        exact ret_vi (by rw [← i4, subI_over (by omega)])
      · have en : decide (subI lf (wL wItm x) < 0) = false := decide_eq_false hn
        obtain ⟨hn1, hn2⟩ := subI_pos hn i2
        repeat' first
          | refine Z1 ?_ | refine Z2 ?_ | refine Z5 ?_ | refine Zc (szItemS_ok x lf i2 (by omega) hdx) ?_ | refine Zd ?_ | refine Ze ?_ | refine Zf ?_ | refine Zo ?_ | refine ok_seq ?_ | refine ok_reg ?_ | refine Zp ?_
          | refine Zq ?_ | refine ok_block ?_ | refine ok_skip ?_ | refine x_normal_then ?_ | refine x_normal_block ?_
        exact ⟨(k + 1, subI lf (wL wItm x)), ⟨by simp only; omega, by simp only; omega, by simp only; omega, by simp only; rw [hn2, subI_add hn1]; exact i4⟩, by (try simp only); omega, low_mk (Nat.zero_le _) ⟨⟨rfl, rfl⟩, ⟨rfl, rfl⟩, ⟨rfl, rfl⟩, ⟨rfl, rfl⟩, trivial⟩ trivial⟩

theorem szStringS_ok (l : List (ByteArray)) (left : Int) (h0 : 0 ≤ left) (h1 : left ≤ 1048576) (hd : dL (dStr) l) : PFun X 33 [.d (.im (l.map eStr)), vi left] (vi (subI left (wL (wStr) l))) := by
  obtain ⟨hd1, hd2⟩ := hd
  simp only [mx] at hd1
  refine pfun_of Tryz.func33 rfl (by decide) Tryz.ntmps33 Tryz.results33 (by simp) rfl rfl ?_
  by_cases hlt : left - (l.length : Int) < 0
  · have e1 : decide (left - (l.length : Int) < 0) = true := decide_eq_true hlt
    repeat' first
      | refine Z1 ?_ | refine Z2 ?_ | refine Z5 ?_ | refine Zd ?_ | refine Zg ?_ | refine Zo ?_ | refine ok_seq ?_ | refine Zp ?_ | refine ok_ret ?_ | refine x_ret_then ?_ | refine Zt ?_
    exact ret_vi (by rw [subI_over (by simp only [wL]; omega)])
  · have e1 : decide (left - (l.length : Int) < 0) = false := decide_eq_false hlt
    repeat' first
      | refine Z1 ?_ | refine Z2 ?_ | refine Z5 ?_ | refine Zd ?_ | refine Zg ?_ | refine Zo ?_ | refine ok_seq ?_ | refine Zq ?_ | refine ok_block ?_ | refine ok_skip ?_ | refine x_normal_then ?_
    refine ok_for (ι := Nat × Int) (fun x => envL [(0, .d (.im (l.map eStr))), (1, vi x.2), (4, vi 0), (5, vi x.1)]) (fun x => stL []) (fun x => x.1 ≤ l.length ∧ 0 ≤ x.2 ∧ x.2 ≤ left ∧ subI x.2 ((l.drop x.1).map (wStr)).sum = subI left (wL (wStr) l)) (fun x => l.length - x.1) (0, left - l.length) (⟨Nat.zero_le _, by simp only; omega, by simp only; omega, by simp only [List.drop_zero]; rw [subI_add (by omega)]; rfl⟩) (weak_mk rfl ⟨.refl _, .refl _, .refl _, .refl _, trivial⟩ trivial) (fun _ => Nat.le_refl 0) ?_
    rintro ⟨k, lf⟩ ⟨i1, i2, i3, i4⟩
    simp only at i1 i2 i3 i4
    rcases hx : l[k]? with _ | x
    · have hle := none_le hx
      have ek : decide ((k : Int) < (l.length : Int)) = false := decide_eq_false (by omega)
      rw [drop_none hx] at i4
      repeat' first
        | refine Z1 ?_ | refine Z2 ?_ | refine Z5 ?_ | refine Zd ?_ | refine Zo ?_ | refine ok_seq ?_ | refine Zq ?_ | refine ok_exit ?_ | refine ok_ret ?_ | refine x_normal_then ?_ | refine x_exit_here ?_ | refine Zv ?_
        | refine Zt ?_
      exact ret_vi (by rw [← i4]; simp [subI]; omega)
    · obtain ⟨hdr, hlt2⟩ := drop_some hx
      have ek : decide ((k : Int) < (l.length : Int)) = true := decide_eq_true (by omega)
      rw [hdr, List.map_cons, List.sum_cons] at i4
      have hdx := hd2 x (List.mem_of_getElem? hx)
      simp only [dStr, mx] at hdx
      simp only [wStr] at i4
      by_cases hn : lf - (x.size : Int) < 0
      · have en : decide (lf - (x.size : Int) < 0) = true := decide_eq_true hn
        have hn1 : lf < (x.size : Int) := by omega
        repeat' first
          | refine Z1 ?_ | refine Z2 ?_ | refine Z5 ?_ | refine Zd ?_ | refine Ze ?_ | refine Zg ?_ | refine Zo ?_ | refine ok_seq ?_ | refine Zp ?_ | refine ok_block ?_ | refine ok_skip ?_ | refine ok_ret ?_
          | refine x_normal_then ?_ | refine x_ret_then ?_ | refine x_ret_block ?_ | refine Zt ?_
        exact ret_vi (by rw [← i4, subI_over (by omega)])
      · have en : decide (lf - (x.size : Int) < 0) = false := decide_eq_false hn
        have hn1 : (x.size : Int) ≤ lf := by omega
        repeat' first
          | refine Z1 ?_ | refine Z2 ?_ | refine Z5 ?_ | refine Zd ?_ | refine Ze ?_ | refine Zf ?_ | refine Zg ?_ | refine Zo ?_ | refine ok_seq ?_ | refine ok_reg ?_ | refine Zp ?_ | refine Zq ?_ | refine ok_block ?_
          | refine ok_skip ?_ | refine x_normal_then ?_ | refine x_normal_block ?_
        exact ⟨(k + 1, lf - (x.size : Int)), ⟨by simp only; omega, by simp only; omega, by simp only; omega, by simp only; rw [subI_add hn1]; exact i4⟩, by (try simp only); omega, low_mk (Nat.zero_le _) ⟨⟨rfl, rfl⟩, ⟨rfl, rfl⟩, ⟨rfl, rfl⟩, ⟨rfl, rfl⟩, trivial⟩ trivial⟩

theorem szSlot_ok (x : Slt) (left : Int) (h0 : 0 ≤ left) (h1 : left ≤ 1048576) (hd : dSlt x) : PFun X 64 [.agg ((eSlt x).map .d), vi left] (vi (subI left (wSlt x))) := by
  have hd0 := hd
  have hd0 : x.name.size ≤ 9223372036854775807 := hd0
  refine pfun_of Tryz.func64 rfl (by decide) Tryz.ntmps64 Tryz.results64 (by simp) rfl rfl ?_
  by_cases hn0 : left - (x.name.size : Int) < 0
  · have en0 : decide (left - (x.name.size : Int) < 0) = true := decide_eq_true hn0
    repeat' first
      | refine Z1 ?_ | refine Z2 ?_ | refine Z5 ?_ | refine Zg ?_ | refine Zo ?_ | refine ok_seq ?_ | refine Zp ?_ | refine ok_ret ?_ | refine x_ret_then ?_ | refine Zt ?_
    exact ret_vi (by rw [subI_over (by simp only [wSlt]; omega)])
  have en0 : decide (left - (x.name.size : Int) < 0) = false := decide_eq_false hn0
  repeat' first
    | refine Z1 ?_ | refine Z2 ?_ | refine Z5 ?_ | refine Zg ?_ | refine Zo ?_ | refine ok_seq ?_ | refine Zq ?_ | refine ok_skip ?_ | refine ok_ret ?_ | refine x_normal_then ?_ | refine Zt ?_
  exact ret_vi (by rw [subI_in (left := left) (n := wSlt x) (by simp only [wSlt]; omega)]; (simp only [wSlt] <;> omega))

theorem szSlotS_ok (l : List (Slt)) (left : Int) (h0 : 0 ≤ left) (h1 : left ≤ 1048576) (hd : dL (dSlt) l) : PFun X 32 [.d (.im (l.map eSlt)), vi left] (vi (subI left (wL (wSlt) l))) := by
  obtain ⟨hd1, hd2⟩ := hd
  simp only [mx] at hd1
  refine pfun_of Tryz.func32 rfl (by decide) Tryz.ntmps32 Tryz.results32 (by simp) rfl rfl ?_
  by_cases hlt : left - (l.length : Int) < 0
  · have e1 : decide (left - (l.length : Int) < 0) = true := decide_eq_true hlt
    repeat' first
      | refine Z1 ?_ | refine Z2 ?_ | refine Z5 ?_ | refine Zd ?_ | refine Zg ?_ | refine Zo ?_ | refine ok_seq ?_ | refine Zp ?_ | refine ok_ret ?_ | refine x_ret_then ?_ | refine Zt ?_
    exact ret_vi (by rw [subI_over (by simp only [wL]; omega)])
  · have e1 : decide (left - (l.length : Int) < 0) = false := decide_eq_false hlt
    repeat' first
      | refine Z1 ?_ | refine Z2 ?_ | refine Z5 ?_ | refine Zd ?_ | refine Zg ?_ | refine Zo ?_ | refine ok_seq ?_ | refine Zq ?_ | refine ok_block ?_ | refine ok_skip ?_ | refine x_normal_then ?_
    refine ok_for (ι := Nat × Int) (fun x => envL [(0, .d (.im (l.map eSlt))), (1, vi x.2), (4, vi 0), (5, vi x.1)]) (fun x => stL []) (fun x => x.1 ≤ l.length ∧ 0 ≤ x.2 ∧ x.2 ≤ left ∧ subI x.2 ((l.drop x.1).map (wSlt)).sum = subI left (wL (wSlt) l)) (fun x => l.length - x.1) (0, left - l.length) (⟨Nat.zero_le _, by simp only; omega, by simp only; omega, by simp only [List.drop_zero]; rw [subI_add (by omega)]; rfl⟩) (weak_mk rfl ⟨.refl _, .refl _, .refl _, .refl _, trivial⟩ trivial) (fun _ => Nat.le_refl 0) ?_
    rintro ⟨k, lf⟩ ⟨i1, i2, i3, i4⟩
    simp only at i1 i2 i3 i4
    rcases hx : l[k]? with _ | x
    · have hle := none_le hx
      have ek : decide ((k : Int) < (l.length : Int)) = false := decide_eq_false (by omega)
      rw [drop_none hx] at i4
      repeat' first
        | refine Z1 ?_ | refine Z2 ?_ | refine Z5 ?_ | refine Zd ?_ | refine Zo ?_ | refine ok_seq ?_ | refine Zq ?_ | refine ok_exit ?_ | refine ok_ret ?_ | refine x_normal_then ?_ | refine x_exit_here ?_ | refine Zv ?_
        | refine Zt ?_
      exact ret_vi (by rw [← i4]; simp [subI]; omega)
    · obtain ⟨hdr, hlt2⟩ := drop_some hx
      have ek : decide ((k : Int) < (l.length : Int)) = true := decide_eq_true (by omega)
      rw [hdr, List.map_cons, List.sum_cons] at i4
      have hdx := hd2 x (List.mem_of_getElem? hx)
      by_cases hn : subI lf (wSlt x) < 0
      · have en : decide (subI lf (wSlt x) < 0) = true := decide_eq_true hn
        obtain ⟨hn1, hn2⟩ := subI_neg hn
        repeat' first
          | refine Z1 ?_ | refine Z2 ?_ | refine Z5 ?_ | refine Zc (szSlot_ok x lf i2 (by omega) hdx) ?_ | refine Zd ?_ | refine Ze ?_ | refine Zo ?_ | refine ok_seq ?_ | refine Zp ?_ | refine ok_block ?_ | refine ok_skip ?_
          | refine ok_ret ?_ | refine x_normal_then ?_ | refine x_ret_then ?_ | refine x_ret_block ?_ | refine Zt ?_
        exact ret_vi (by rw [← i4, subI_over (by omega)])
      · have en : decide (subI lf (wSlt x) < 0) = false := decide_eq_false hn
        obtain ⟨hn1, hn2⟩ := subI_pos hn i2
        repeat' first
          | refine Z1 ?_ | refine Z2 ?_ | refine Z5 ?_ | refine Zc (szSlot_ok x lf i2 (by omega) hdx) ?_ | refine Zd ?_ | refine Ze ?_ | refine Zf ?_ | refine Zo ?_ | refine ok_seq ?_ | refine ok_reg ?_ | refine Zp ?_
          | refine Zq ?_ | refine ok_block ?_ | refine ok_skip ?_ | refine x_normal_then ?_ | refine x_normal_block ?_
        exact ⟨(k + 1, subI lf (wSlt x)), ⟨by simp only; omega, by simp only; omega, by simp only; omega, by simp only; rw [hn2, subI_add hn1]; exact i4⟩, by (try simp only); omega, low_mk (Nat.zero_le _) ⟨⟨rfl, rfl⟩, ⟨rfl, rfl⟩, ⟨rfl, rfl⟩, ⟨rfl, rfl⟩, trivial⟩ trivial⟩

theorem szIntS_ok (l : List Int) (left : Int) (h0 : 0 ≤ left) (h1 : left ≤ 1048576) (hd : dNums l) : PFun X 34 [.d (.im (l.map eNum)), vi left] (vi (subI left (wL wNum0 l))) := by
  have hd1 : l.length ≤ 9223372036854775807 := hd
  have hw0 := wNum0_sum l
  refine pfun_of Tryz.func34 rfl (by decide) Tryz.ntmps34 Tryz.results34 (by simp) rfl rfl ?_
  by_cases hlt : left - (l.length : Int) < 0
  · have e1 : decide (left - (l.length : Int) < 0) = true := decide_eq_true hlt
    repeat' first
      | refine Z1 ?_ | refine Z2 ?_ | refine Z5 ?_ | refine Zd ?_ | refine Zg ?_ | refine Zo ?_ | refine ok_seq ?_ | refine Zp ?_ | refine ok_ret ?_ | refine x_ret_then ?_ | refine Zt ?_
    exact ret_vi (by rw [subI_over (by simp only [wL]; omega)])
  · have e1 : decide (left - (l.length : Int) < 0) = false := decide_eq_false hlt
    repeat' first
      | refine Z1 ?_ | refine Z2 ?_ | refine Z5 ?_ | refine Zd ?_ | refine Zg ?_ | refine Zo ?_ | refine ok_seq ?_ | refine Zq ?_ | refine ok_skip ?_ | refine ok_ret ?_ | refine x_normal_then ?_ | refine Zt ?_
    exact ret_vi (by rw [subI_in (by simp only [wL]; omega)]; simp only [wL]; omega)

theorem szStm_ok (x : Sm) (left : Int) (h0 : 0 ≤ left) (h1 : left ≤ 1048576) (hd : dSm x) : PFun X 65 [.agg ((eSm x).map .d), vi left] (vi (subI left (wSm x))) := by
  obtain ⟨hd0, hd1, hd2, hd3⟩ := hd
  have hd0 : x.name.size ≤ 9223372036854775807 := hd0
  refine pfun_of Tryz.func65 rfl (by decide) Tryz.ntmps65 Tryz.results65 (by simp) rfl rfl ?_
  by_cases hn0 : left - (x.name.size : Int) < 0
  · have en0 : decide (left - (x.name.size : Int) < 0) = true := decide_eq_true hn0
    repeat' first
      | refine Z1 ?_ | refine Z2 ?_ | refine Z5 ?_ | refine Zg ?_ | refine Zo ?_ | refine ok_seq ?_ | refine Zp ?_ | refine ok_ret ?_ | refine x_ret_then ?_ | refine Zt ?_
    exact ret_vi (by rw [subI_over (by simp only [wSm]; omega)])
  have en0 : decide (left - (x.name.size : Int) < 0) = false := decide_eq_false hn0
  by_cases hn1 : subI (left - (x.name.size : Int)) (wL wStr x.outs) < 0
  · have en1 : decide (subI (left - (x.name.size : Int)) (wL wStr x.outs) < 0) = true := decide_eq_true hn1
    obtain ⟨ha1, hb1⟩ := subI_neg hn1
    repeat' first
      | refine Z1 ?_ | refine Z2 ?_ | refine Z5 ?_ | refine Zc (szStringS_ok x.outs (left - (x.name.size : Int)) (by omega) (by omega) hd1) ?_ | refine Zg ?_ | refine Zo ?_ | refine ok_seq ?_ | refine Zp ?_ | refine Zq ?_
      | refine ok_skip ?_ | refine ok_ret ?_ | refine x_normal_then ?_ | refine x_ret_then ?_ | refine Zt ?_
    exact ret_vi (by rw [subI_over (by simp only [wSm]; omega)])
  have en1 : decide (subI (left - (x.name.size : Int)) (wL wStr x.outs) < 0) = false := decide_eq_false hn1
  obtain ⟨ha1, hb1⟩ := subI_pos hn1 (by omega)
  by_cases hn2 : subI (subI (left - (x.name.size : Int)) (wL wStr x.outs)) (wL wItm x.code) < 0
  · have en2 : decide (subI (subI (left - (x.name.size : Int)) (wL wStr x.outs)) (wL wItm x.code) < 0) = true := decide_eq_true hn2
    obtain ⟨ha2, hb2⟩ := subI_neg hn2
    repeat' first
      | refine Z1 ?_ | refine Z2 ?_ | refine Z5 ?_ | refine Zc (szStringS_ok x.outs (left - (x.name.size : Int)) (by omega) (by omega) hd1) ?_
      | refine Zc (szItemS_ok x.code (subI (left - (x.name.size : Int)) (wL wStr x.outs)) (by omega) (by omega) hd2) ?_ | refine Zg ?_ | refine Zo ?_ | refine ok_seq ?_ | refine Zp ?_ | refine Zq ?_ | refine ok_skip ?_ | refine ok_ret ?_
      | refine x_normal_then ?_ | refine x_ret_then ?_ | refine Zt ?_
    exact ret_vi (by rw [subI_over (by simp only [wSm]; omega)])
  have en2 : decide (subI (subI (left - (x.name.size : Int)) (wL wStr x.outs)) (wL wItm x.code) < 0) = false := decide_eq_false hn2
  obtain ⟨ha2, hb2⟩ := subI_pos hn2 (by omega)
  by_cases hn3 : subI (subI (subI (left - (x.name.size : Int)) (wL wStr x.outs)) (wL wItm x.code)) (wL (wL wItm) x.args) < 0
  · have en3 : decide (subI (subI (subI (left - (x.name.size : Int)) (wL wStr x.outs)) (wL wItm x.code)) (wL (wL wItm) x.args) < 0) = true := decide_eq_true hn3
    obtain ⟨ha3, hb3⟩ := subI_neg hn3
    repeat' first
      | refine Z1 ?_ | refine Z2 ?_ | refine Z5 ?_ | refine Zc (szStringS_ok x.outs (left - (x.name.size : Int)) (by omega) (by omega) hd1) ?_
      | refine Zc (szItemS_ok x.code (subI (left - (x.name.size : Int)) (wL wStr x.outs)) (by omega) (by omega) hd2) ?_
      | refine Zc (szItemSS_ok x.args (subI (subI (left - (x.name.size : Int)) (wL wStr x.outs)) (wL wItm x.code)) (by omega) (by omega) hd3) ?_ | refine Zg ?_ | refine Zo ?_ | refine ok_seq ?_ | refine Zp ?_ | refine Zq ?_ | refine ok_skip ?_
      | refine ok_ret ?_ | refine x_normal_then ?_ | refine x_ret_then ?_ | refine Zt ?_
    exact ret_vi (by rw [subI_over (by simp only [wSm]; omega)])
  have en3 : decide (subI (subI (subI (left - (x.name.size : Int)) (wL wStr x.outs)) (wL wItm x.code)) (wL (wL wItm) x.args) < 0) = false := decide_eq_false hn3
  obtain ⟨ha3, hb3⟩ := subI_pos hn3 (by omega)
  repeat' first
    | refine Z1 ?_ | refine Z2 ?_ | refine Z5 ?_ | refine Zc (szStringS_ok x.outs (left - (x.name.size : Int)) (by omega) (by omega) hd1) ?_
    | refine Zc (szItemS_ok x.code (subI (left - (x.name.size : Int)) (wL wStr x.outs)) (by omega) (by omega) hd2) ?_
    | refine Zc (szItemSS_ok x.args (subI (subI (left - (x.name.size : Int)) (wL wStr x.outs)) (wL wItm x.code)) (by omega) (by omega) hd3) ?_ | refine Zg ?_ | refine Zo ?_ | refine ok_seq ?_ | refine Zq ?_ | refine ok_skip ?_
    | refine ok_ret ?_ | refine x_normal_then ?_ | refine Zt ?_
  exact ret_vi (by rw [subI_in (left := left) (n := wSm x) (by simp only [wSm]; omega)]; (simp only [wSm] <;> omega))

theorem szStmS_ok (l : List (Sm)) (left : Int) (h0 : 0 ≤ left) (h1 : left ≤ 1048576) (hd : dL (dSm) l) : PFun X 35 [.d (.im (l.map eSm)), vi left] (vi (subI left (wL (wSm) l))) := by
  obtain ⟨hd1, hd2⟩ := hd
  simp only [mx] at hd1
  refine pfun_of Tryz.func35 rfl (by decide) Tryz.ntmps35 Tryz.results35 (by simp) rfl rfl ?_
  by_cases hlt : left - (l.length : Int) < 0
  · have e1 : decide (left - (l.length : Int) < 0) = true := decide_eq_true hlt
    repeat' first
      | refine Z1 ?_ | refine Z2 ?_ | refine Z5 ?_ | refine Zd ?_ | refine Zg ?_ | refine Zo ?_ | refine ok_seq ?_ | refine Zp ?_ | refine ok_ret ?_ | refine x_ret_then ?_ | refine Zt ?_
    exact ret_vi (by rw [subI_over (by simp only [wL]; omega)])
  · have e1 : decide (left - (l.length : Int) < 0) = false := decide_eq_false hlt
    repeat' first
      | refine Z1 ?_ | refine Z2 ?_ | refine Z5 ?_ | refine Zd ?_ | refine Zg ?_ | refine Zo ?_ | refine ok_seq ?_ | refine Zq ?_ | refine ok_block ?_ | refine ok_skip ?_ | refine x_normal_then ?_
    refine ok_for (ι := Nat × Int) (fun x => envL [(0, .d (.im (l.map eSm))), (1, vi x.2), (4, vi 0), (5, vi x.1)]) (fun x => stL []) (fun x => x.1 ≤ l.length ∧ 0 ≤ x.2 ∧ x.2 ≤ left ∧ subI x.2 ((l.drop x.1).map (wSm)).sum = subI left (wL (wSm) l)) (fun x => l.length - x.1) (0, left - l.length) (⟨Nat.zero_le _, by simp only; omega, by simp only; omega, by simp only [List.drop_zero]; rw [subI_add (by omega)]; rfl⟩) (weak_mk rfl ⟨.refl _, .refl _, .refl _, .refl _, trivial⟩ trivial) (fun _ => Nat.le_refl 0) ?_
    rintro ⟨k, lf⟩ ⟨i1, i2, i3, i4⟩
    simp only at i1 i2 i3 i4
    rcases hx : l[k]? with _ | x
    · have hle := none_le hx
      have ek : decide ((k : Int) < (l.length : Int)) = false := decide_eq_false (by omega)
      rw [drop_none hx] at i4
      repeat' first
        | refine Z1 ?_ | refine Z2 ?_ | refine Z5 ?_ | refine Zd ?_ | refine Zo ?_ | refine ok_seq ?_ | refine Zq ?_ | refine ok_exit ?_ | refine ok_ret ?_ | refine x_normal_then ?_ | refine x_exit_here ?_ | refine Zv ?_
        | refine Zt ?_
      exact ret_vi (by rw [← i4]; simp [subI]; omega)
    · obtain ⟨hdr, hlt2⟩ := drop_some hx
      have ek : decide ((k : Int) < (l.length : Int)) = true := decide_eq_true (by omega)
      rw [hdr, List.map_cons, List.sum_cons] at i4
      have hdx := hd2 x (List.mem_of_getElem? hx)
      by_cases hn : subI lf (wSm x) < 0
      · have en : decide (subI lf (wSm x) < 0) = true := decide_eq_true hn
        obtain ⟨hn1, hn2⟩ := subI_neg hn
        repeat' first
          | refine Z1 ?_ | refine Z2 ?_ | refine Z5 ?_ | refine Zc (szStm_ok x lf i2 (by omega) hdx) ?_ | refine Zd ?_ | refine Ze ?_ | refine Zo ?_ | refine ok_seq ?_ | refine Zp ?_ | refine ok_block ?_ | refine ok_skip ?_
          | refine ok_ret ?_ | refine x_normal_then ?_ | refine x_ret_then ?_ | refine x_ret_block ?_ | refine Zt ?_
        exact ret_vi (by rw [← i4, subI_over (by omega)])
      · have en : decide (subI lf (wSm x) < 0) = false := decide_eq_false hn
        obtain ⟨hn1, hn2⟩ := subI_pos hn i2
        repeat' first
          | refine Z1 ?_ | refine Z2 ?_ | refine Z5 ?_ | refine Zc (szStm_ok x lf i2 (by omega) hdx) ?_ | refine Zd ?_ | refine Ze ?_ | refine Zf ?_ | refine Zo ?_ | refine ok_seq ?_ | refine ok_reg ?_ | refine Zp ?_ | refine Zq ?_
          | refine ok_block ?_ | refine ok_skip ?_ | refine x_normal_then ?_ | refine x_normal_block ?_
        exact ⟨(k + 1, subI lf (wSm x)), ⟨by simp only; omega, by simp only; omega, by simp only; omega, by simp only; rw [hn2, subI_add hn1]; exact i4⟩, by (try simp only); omega, low_mk (Nat.zero_le _) ⟨⟨rfl, rfl⟩, ⟨rfl, rfl⟩, ⟨rfl, rfl⟩, ⟨rfl, rfl⟩, trivial⟩ trivial⟩

theorem szClass_ok (x : Cls) (left : Int) (h0 : 0 ≤ left) (h1 : left ≤ 1048576) (hd : dCls x) : PFun X 18 [.agg ((eCls x).map .d), vi left] (vi (subI left (wCls x))) := by
  obtain ⟨hd0, hd1, hd2, hd3, hd4, hd5, hd6⟩ := hd
  have hd0 : x.name.size ≤ 9223372036854775807 := hd0
  refine pfun_of Tryz.func18 rfl (by decide) Tryz.ntmps18 Tryz.results18 (by simp) rfl rfl ?_
  by_cases hn0 : left - (x.name.size : Int) < 0
  · have en0 : decide (left - (x.name.size : Int) < 0) = true := decide_eq_true hn0
    repeat' first
      | refine Z1 ?_ | refine Z2 ?_ | refine Z5 ?_ | refine Zg ?_ | refine Zo ?_ | refine ok_seq ?_ | refine Zp ?_ | refine ok_ret ?_ | refine x_ret_then ?_ | refine Zt ?_
    exact ret_vi (by rw [subI_over (by simp only [wCls]; omega)])
  have en0 : decide (left - (x.name.size : Int) < 0) = false := decide_eq_false hn0
  by_cases hn1 : subI (left - (x.name.size : Int)) (wL wSlt x.ins) < 0
  · have en1 : decide (subI (left - (x.name.size : Int)) (wL wSlt x.ins) < 0) = true := decide_eq_true hn1
    obtain ⟨ha1, hb1⟩ := subI_neg hn1
    repeat' first
      | refine Z1 ?_ | refine Z2 ?_ | refine Z5 ?_ | refine Zc (szSlotS_ok x.ins (left - (x.name.size : Int)) (by omega) (by omega) hd1) ?_ | refine Zg ?_ | refine Zo ?_ | refine ok_seq ?_ | refine Zp ?_ | refine Zq ?_
      | refine ok_skip ?_ | refine ok_ret ?_ | refine x_normal_then ?_ | refine x_ret_then ?_ | refine Zt ?_
    exact ret_vi (by rw [subI_over (by simp only [wCls]; omega)])
  have en1 : decide (subI (left - (x.name.size : Int)) (wL wSlt x.ins) < 0) = false := decide_eq_false hn1
  obtain ⟨ha1, hb1⟩ := subI_pos hn1 (by omega)
  by_cases hn2 : subI (subI (left - (x.name.size : Int)) (wL wSlt x.ins)) (wL wSlt x.outs) < 0
  · have en2 : decide (subI (subI (left - (x.name.size : Int)) (wL wSlt x.ins)) (wL wSlt x.outs) < 0) = true := decide_eq_true hn2
    obtain ⟨ha2, hb2⟩ := subI_neg hn2
    repeat' first
      | refine Z1 ?_ | refine Z2 ?_ | refine Z5 ?_ | refine Zc (szSlotS_ok x.ins (left - (x.name.size : Int)) (by omega) (by omega) hd1) ?_
      | refine Zc (szSlotS_ok x.outs (subI (left - (x.name.size : Int)) (wL wSlt x.ins)) (by omega) (by omega) hd2) ?_ | refine Zg ?_ | refine Zo ?_ | refine ok_seq ?_ | refine Zp ?_ | refine Zq ?_ | refine ok_skip ?_ | refine ok_ret ?_
      | refine x_normal_then ?_ | refine x_ret_then ?_ | refine Zt ?_
    exact ret_vi (by rw [subI_over (by simp only [wCls]; omega)])
  have en2 : decide (subI (subI (left - (x.name.size : Int)) (wL wSlt x.ins)) (wL wSlt x.outs) < 0) = false := decide_eq_false hn2
  obtain ⟨ha2, hb2⟩ := subI_pos hn2 (by omega)
  by_cases hn3 : subI (subI (subI (left - (x.name.size : Int)) (wL wSlt x.ins)) (wL wSlt x.outs)) (wL wStr x.locs) < 0
  · have en3 : decide (subI (subI (subI (left - (x.name.size : Int)) (wL wSlt x.ins)) (wL wSlt x.outs)) (wL wStr x.locs) < 0) = true := decide_eq_true hn3
    obtain ⟨ha3, hb3⟩ := subI_neg hn3
    repeat' first
      | refine Z1 ?_ | refine Z2 ?_ | refine Z5 ?_ | refine Zc (szSlotS_ok x.ins (left - (x.name.size : Int)) (by omega) (by omega) hd1) ?_
      | refine Zc (szSlotS_ok x.outs (subI (left - (x.name.size : Int)) (wL wSlt x.ins)) (by omega) (by omega) hd2) ?_
      | refine Zc (szStringS_ok x.locs (subI (subI (left - (x.name.size : Int)) (wL wSlt x.ins)) (wL wSlt x.outs)) (by omega) (by omega) hd3) ?_ | refine Zg ?_ | refine Zo ?_ | refine ok_seq ?_ | refine Zp ?_ | refine Zq ?_ | refine ok_skip ?_
      | refine ok_ret ?_ | refine x_normal_then ?_ | refine x_ret_then ?_ | refine Zt ?_
    exact ret_vi (by rw [subI_over (by simp only [wCls]; omega)])
  have en3 : decide (subI (subI (subI (left - (x.name.size : Int)) (wL wSlt x.ins)) (wL wSlt x.outs)) (wL wStr x.locs) < 0) = false := decide_eq_false hn3
  obtain ⟨ha3, hb3⟩ := subI_pos hn3 (by omega)
  by_cases hn4 : subI (subI (subI (subI (left - (x.name.size : Int)) (wL wSlt x.ins)) (wL wSlt x.outs)) (wL wStr x.locs)) (wL wNum0 x.mems) < 0
  · have en4 : decide (subI (subI (subI (subI (left - (x.name.size : Int)) (wL wSlt x.ins)) (wL wSlt x.outs)) (wL wStr x.locs)) (wL wNum0 x.mems) < 0) = true := decide_eq_true hn4
    obtain ⟨ha4, hb4⟩ := subI_neg hn4
    repeat' first
      | refine Z1 ?_ | refine Z2 ?_ | refine Z5 ?_ | refine Zc (szSlotS_ok x.ins (left - (x.name.size : Int)) (by omega) (by omega) hd1) ?_
      | refine Zc (szSlotS_ok x.outs (subI (left - (x.name.size : Int)) (wL wSlt x.ins)) (by omega) (by omega) hd2) ?_
      | refine Zc (szStringS_ok x.locs (subI (subI (left - (x.name.size : Int)) (wL wSlt x.ins)) (wL wSlt x.outs)) (by omega) (by omega) hd3) ?_
      | refine Zc (szIntS_ok x.mems (subI (subI (subI (left - (x.name.size : Int)) (wL wSlt x.ins)) (wL wSlt x.outs)) (wL wStr x.locs)) (by omega) (by omega) hd4) ?_ | refine Zg ?_ | refine Zo ?_ | refine ok_seq ?_ | refine Zp ?_
      | refine Zq ?_ | refine ok_skip ?_ | refine ok_ret ?_ | refine x_normal_then ?_ | refine x_ret_then ?_ | refine Zt ?_
    exact ret_vi (by rw [subI_over (by simp only [wCls]; omega)])
  have en4 : decide (subI (subI (subI (subI (left - (x.name.size : Int)) (wL wSlt x.ins)) (wL wSlt x.outs)) (wL wStr x.locs)) (wL wNum0 x.mems) < 0) = false := decide_eq_false hn4
  obtain ⟨ha4, hb4⟩ := subI_pos hn4 (by omega)
  by_cases hn5 : subI (subI (subI (subI (subI (left - (x.name.size : Int)) (wL wSlt x.ins)) (wL wSlt x.outs)) (wL wStr x.locs)) (wL wNum0 x.mems)) (wL wNum0 x.insts) < 0
  · have en5 : decide (subI (subI (subI (subI (subI (left - (x.name.size : Int)) (wL wSlt x.ins)) (wL wSlt x.outs)) (wL wStr x.locs)) (wL wNum0 x.mems)) (wL wNum0 x.insts) < 0) = true := decide_eq_true hn5
    obtain ⟨ha5, hb5⟩ := subI_neg hn5
    repeat' first
      | refine Z1 ?_ | refine Z2 ?_ | refine Z5 ?_ | refine Zc (szSlotS_ok x.ins (left - (x.name.size : Int)) (by omega) (by omega) hd1) ?_
      | refine Zc (szSlotS_ok x.outs (subI (left - (x.name.size : Int)) (wL wSlt x.ins)) (by omega) (by omega) hd2) ?_
      | refine Zc (szStringS_ok x.locs (subI (subI (left - (x.name.size : Int)) (wL wSlt x.ins)) (wL wSlt x.outs)) (by omega) (by omega) hd3) ?_
      | refine Zc (szIntS_ok x.mems (subI (subI (subI (left - (x.name.size : Int)) (wL wSlt x.ins)) (wL wSlt x.outs)) (wL wStr x.locs)) (by omega) (by omega) hd4) ?_
      | refine Zc (szIntS_ok x.insts (subI (subI (subI (subI (left - (x.name.size : Int)) (wL wSlt x.ins)) (wL wSlt x.outs)) (wL wStr x.locs)) (wL wNum0 x.mems)) (by omega) (by omega) hd5) ?_ | refine Zg ?_ | refine Zo ?_ | refine ok_seq ?_
      | refine Zp ?_ | refine Zq ?_ | refine ok_skip ?_ | refine ok_ret ?_ | refine x_normal_then ?_ | refine x_ret_then ?_ | refine Zt ?_
    exact ret_vi (by rw [subI_over (by simp only [wCls]; omega)])
  have en5 : decide (subI (subI (subI (subI (subI (left - (x.name.size : Int)) (wL wSlt x.ins)) (wL wSlt x.outs)) (wL wStr x.locs)) (wL wNum0 x.mems)) (wL wNum0 x.insts) < 0) = false := decide_eq_false hn5
  obtain ⟨ha5, hb5⟩ := subI_pos hn5 (by omega)
  by_cases hn6 : subI (subI (subI (subI (subI (subI (left - (x.name.size : Int)) (wL wSlt x.ins)) (wL wSlt x.outs)) (wL wStr x.locs)) (wL wNum0 x.mems)) (wL wNum0 x.insts)) (wL wSm x.body) < 0
  · have en6 : decide (subI (subI (subI (subI (subI (subI (left - (x.name.size : Int)) (wL wSlt x.ins)) (wL wSlt x.outs)) (wL wStr x.locs)) (wL wNum0 x.mems)) (wL wNum0 x.insts)) (wL wSm x.body) < 0) = true := decide_eq_true hn6
    obtain ⟨ha6, hb6⟩ := subI_neg hn6
    repeat' first
      | refine Z1 ?_ | refine Z2 ?_ | refine Z5 ?_ | refine Zc (szSlotS_ok x.ins (left - (x.name.size : Int)) (by omega) (by omega) hd1) ?_
      | refine Zc (szSlotS_ok x.outs (subI (left - (x.name.size : Int)) (wL wSlt x.ins)) (by omega) (by omega) hd2) ?_
      | refine Zc (szStringS_ok x.locs (subI (subI (left - (x.name.size : Int)) (wL wSlt x.ins)) (wL wSlt x.outs)) (by omega) (by omega) hd3) ?_
      | refine Zc (szIntS_ok x.mems (subI (subI (subI (left - (x.name.size : Int)) (wL wSlt x.ins)) (wL wSlt x.outs)) (wL wStr x.locs)) (by omega) (by omega) hd4) ?_
      | refine Zc (szIntS_ok x.insts (subI (subI (subI (subI (left - (x.name.size : Int)) (wL wSlt x.ins)) (wL wSlt x.outs)) (wL wStr x.locs)) (wL wNum0 x.mems)) (by omega) (by omega) hd5) ?_
      | refine Zc (szStmS_ok x.body (subI (subI (subI (subI (subI (left - (x.name.size : Int)) (wL wSlt x.ins)) (wL wSlt x.outs)) (wL wStr x.locs)) (wL wNum0 x.mems)) (wL wNum0 x.insts)) (by omega) (by omega) hd6) ?_ | refine Zg ?_
      | refine Zo ?_ | refine ok_seq ?_ | refine Zp ?_ | refine Zq ?_ | refine ok_skip ?_ | refine ok_ret ?_ | refine x_normal_then ?_ | refine x_ret_then ?_ | refine Zt ?_
    exact ret_vi (by rw [subI_over (by simp only [wCls]; omega)])
  have en6 : decide (subI (subI (subI (subI (subI (subI (left - (x.name.size : Int)) (wL wSlt x.ins)) (wL wSlt x.outs)) (wL wStr x.locs)) (wL wNum0 x.mems)) (wL wNum0 x.insts)) (wL wSm x.body) < 0) = false := decide_eq_false hn6
  obtain ⟨ha6, hb6⟩ := subI_pos hn6 (by omega)
  repeat' first
    | refine Z1 ?_ | refine Z2 ?_ | refine Z5 ?_ | refine Zc (szSlotS_ok x.ins (left - (x.name.size : Int)) (by omega) (by omega) hd1) ?_
    | refine Zc (szSlotS_ok x.outs (subI (left - (x.name.size : Int)) (wL wSlt x.ins)) (by omega) (by omega) hd2) ?_
    | refine Zc (szStringS_ok x.locs (subI (subI (left - (x.name.size : Int)) (wL wSlt x.ins)) (wL wSlt x.outs)) (by omega) (by omega) hd3) ?_
    | refine Zc (szIntS_ok x.mems (subI (subI (subI (left - (x.name.size : Int)) (wL wSlt x.ins)) (wL wSlt x.outs)) (wL wStr x.locs)) (by omega) (by omega) hd4) ?_
    | refine Zc (szIntS_ok x.insts (subI (subI (subI (subI (left - (x.name.size : Int)) (wL wSlt x.ins)) (wL wSlt x.outs)) (wL wStr x.locs)) (wL wNum0 x.mems)) (by omega) (by omega) hd5) ?_
    | refine Zc (szStmS_ok x.body (subI (subI (subI (subI (subI (left - (x.name.size : Int)) (wL wSlt x.ins)) (wL wSlt x.outs)) (wL wStr x.locs)) (wL wNum0 x.mems)) (wL wNum0 x.insts)) (by omega) (by omega) hd6) ?_ | refine Zg ?_
    | refine Zo ?_ | refine ok_seq ?_ | refine Zq ?_ | refine ok_skip ?_ | refine ok_ret ?_ | refine x_normal_then ?_ | refine Zt ?_
  exact ret_vi (by rw [subI_in (left := left) (n := wCls x) (by simp only [wCls]; omega)]; (simp only [wCls] <;> omega))

theorem szClassS_ok (l : List (Cls)) (left : Int) (h0 : 0 ≤ left) (h1 : left ≤ 1048576) (hd : dL (dCls) l) : PFun X 9 [.d (.im (l.map eCls)), vi left] (vi (subI left (wL (wCls) l))) := by
  obtain ⟨hd1, hd2⟩ := hd
  simp only [mx] at hd1
  refine pfun_of Tryz.func9 rfl (by decide) Tryz.ntmps9 Tryz.results9 (by simp) rfl rfl ?_
  by_cases hlt : left - (l.length : Int) < 0
  · have e1 : decide (left - (l.length : Int) < 0) = true := decide_eq_true hlt
    repeat' first
      | refine Z1 ?_ | refine Z2 ?_ | refine Z5 ?_ | refine Zd ?_ | refine Zg ?_ | refine Zo ?_ | refine ok_seq ?_ | refine Zp ?_ | refine ok_ret ?_ | refine x_ret_then ?_ | refine Zt ?_
    exact ret_vi (by rw [subI_over (by simp only [wL]; omega)])
  · have e1 : decide (left - (l.length : Int) < 0) = false := decide_eq_false hlt
    repeat' first
      | refine Z1 ?_ | refine Z2 ?_ | refine Z5 ?_ | refine Zd ?_ | refine Zg ?_ | refine Zo ?_ | refine ok_seq ?_ | refine Zq ?_ | refine ok_block ?_ | refine ok_skip ?_ | refine x_normal_then ?_
    refine ok_for (ι := Nat × Int) (fun x => envL [(0, .d (.im (l.map eCls))), (1, vi x.2), (4, vi 0), (5, vi x.1)]) (fun x => stL []) (fun x => x.1 ≤ l.length ∧ 0 ≤ x.2 ∧ x.2 ≤ left ∧ subI x.2 ((l.drop x.1).map (wCls)).sum = subI left (wL (wCls) l)) (fun x => l.length - x.1) (0, left - l.length) (⟨Nat.zero_le _, by simp only; omega, by simp only; omega, by simp only [List.drop_zero]; rw [subI_add (by omega)]; rfl⟩) (weak_mk rfl ⟨.refl _, .refl _, .refl _, .refl _, trivial⟩ trivial) (fun _ => Nat.le_refl 0) ?_
    rintro ⟨k, lf⟩ ⟨i1, i2, i3, i4⟩
    simp only at i1 i2 i3 i4
    rcases hx : l[k]? with _ | x
    · have hle := none_le hx
      have ek : decide ((k : Int) < (l.length : Int)) = false := decide_eq_false (by omega)
      rw [drop_none hx] at i4
      repeat' first
        | refine Z1 ?_ | refine Z2 ?_ | refine Z5 ?_ | refine Zd ?_ | refine Zo ?_ | refine ok_seq ?_ | refine Zq ?_ | refine ok_exit ?_ | refine ok_ret ?_ | refine x_normal_then ?_ | refine x_exit_here ?_ | refine Zv ?_
        | refine Zt ?_
      exact ret_vi (by rw [← i4]; simp [subI]; omega)
    · obtain ⟨hdr, hlt2⟩ := drop_some hx
      have ek : decide ((k : Int) < (l.length : Int)) = true := decide_eq_true (by omega)
      rw [hdr, List.map_cons, List.sum_cons] at i4
      have hdx := hd2 x (List.mem_of_getElem? hx)
      by_cases hn : subI lf (wCls x) < 0
      · have en : decide (subI lf (wCls x) < 0) = true := decide_eq_true hn
        obtain ⟨hn1, hn2⟩ := subI_neg hn
        repeat' first
          | refine Z1 ?_ | refine Z2 ?_ | refine Z5 ?_ | refine Zc (szClass_ok x lf i2 (by omega) hdx) ?_ | refine Zd ?_ | refine Ze ?_ | refine Zo ?_ | refine ok_seq ?_ | refine Zp ?_ | refine ok_block ?_ | refine ok_skip ?_
          | refine ok_ret ?_ | refine x_normal_then ?_ | refine x_ret_then ?_ | refine x_ret_block ?_ | refine Zt ?_
        exact ret_vi (by rw [← i4, subI_over (by omega)])
      · have en : decide (subI lf (wCls x) < 0) = false := decide_eq_false hn
        obtain ⟨hn1, hn2⟩ := subI_pos hn i2
        repeat' first
          | refine Z1 ?_ | refine Z2 ?_ | refine Z5 ?_ | refine Zc (szClass_ok x lf i2 (by omega) hdx) ?_ | refine Zd ?_ | refine Ze ?_ | refine Zf ?_ | refine Zo ?_ | refine ok_seq ?_ | refine ok_reg ?_ | refine Zp ?_
          | refine Zq ?_ | refine ok_block ?_ | refine ok_skip ?_ | refine x_normal_then ?_ | refine x_normal_block ?_
        exact ⟨(k + 1, subI lf (wCls x)), ⟨by simp only; omega, by simp only; omega, by simp only; omega, by simp only; rw [hn2, subI_add hn1]; exact i4⟩, by (try simp only); omega, low_mk (Nat.zero_le _) ⟨⟨rfl, rfl⟩, ⟨rfl, rfl⟩, ⟨rfl, rfl⟩, ⟨rfl, rfl⟩, trivial⟩ trivial⟩

theorem szMachine_ok (l : List Cls) (left : Int) (h0 : 0 ≤ left) (h1 : left ≤ 1048576) (hd : dL dCls l) : PFun X 4 [.agg [.d (.im (l.map eCls))], vi left] (vi (subI left (wL wCls l))) := by
  refine pfun_of Tryz.func4 rfl (by decide) Tryz.ntmps4 Tryz.results4 (by simp) rfl rfl ?_
  by_cases hn : subI left (wL wCls l) < 0
  · have en : decide (subI left (wL wCls l) < 0) = true := decide_eq_true hn
    obtain ⟨hn1, hn2⟩ := subI_neg hn
    repeat' first
      | refine Z1 ?_ | refine Z2 ?_ | refine Z5 ?_ | refine Zc (szClassS_ok l left h0 h1 hd) ?_ | refine Zo ?_ | refine ok_seq ?_ | refine Zp ?_ | refine ok_ret ?_ | refine x_ret_then ?_ | refine Zt ?_
    exact ret_vi hn2.symm
  · have en : decide (subI left (wL wCls l) < 0) = false := decide_eq_false hn
    repeat' first
      | refine Z1 ?_ | refine Z2 ?_ | refine Z5 ?_ | refine Zc (szClassS_ok l left h0 h1 hd) ?_ | refine Zo ?_ | refine ok_seq ?_ | refine Zq ?_ | refine ok_skip ?_ | refine ok_ret ?_ | refine x_normal_then ?_ | refine Zt ?_
    rfl

end Go.Pm
