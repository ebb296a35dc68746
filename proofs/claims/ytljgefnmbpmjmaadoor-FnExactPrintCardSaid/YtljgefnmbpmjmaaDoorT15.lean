/- The laws' size functions (printed by gen_sz.py). -/
import Derived.Test.YtljgefnmbpmjmaaDoorT8
import Derived.Test.YtljgefnmbpmjmaaDoorT14
import Derived.Test.YtljgefnmbpmjmaaDoorT12
set_option linter.unusedVariables false
set_option linter.unusedSimpArgs false
namespace Go.Pm
attribute [local irreducible] AR Ok inBlock andThen endQ aoper
set_option maxHeartbeats 1000000
open Go.Proofs

theorem szCond_ok (x : Cnd) (left : Int) (h0 : 0 ≤ left) (h1 : left ≤ 1048576) (hd : dCnd x) : PFun X 120 [.agg ((eCnd x).map .d), vi left] (vi (subI left (wCnd x))) := by
  have hd0 := hd
  have hd0 : x.name.size ≤ 9223372036854775807 := hd0
  refine pfun_of Tryd.func120 rfl (by decide) Tryd.ntmps120 Tryd.results120 (by simp) rfl rfl ?_
  by_cases hn0 : left - (x.name.size : Int) < 0
  · have en0 : decide (left - (x.name.size : Int) < 0) = true := decide_eq_true hn0
    repeat' first
      | refine Z1 ?_ | refine Z2 ?_ | refine Z5 ?_ | refine Zg ?_ | refine Zo ?_ | refine ok_seq ?_ | refine Zp ?_ | refine ok_ret ?_ | refine x_ret_then ?_ | refine Zt ?_
    exact ret_vi (by rw [subI_over (by simp only [wCnd]; omega)])
  have en0 : decide (left - (x.name.size : Int) < 0) = false := decide_eq_false hn0
  repeat' first
    | refine Z1 ?_ | refine Z2 ?_ | refine Z5 ?_ | refine Zg ?_ | refine Zo ?_ | refine ok_seq ?_ | refine Zq ?_ | refine ok_skip ?_ | refine ok_ret ?_ | refine x_normal_then ?_ | refine Zt ?_
  exact ret_vi (by rw [subI_in (left := left) (n := wCnd x) (by simp only [wCnd]; omega)]; (simp only [wCnd] <;> omega))

theorem szItem_ok (x : Itm) (left : Int) (h0 : 0 ≤ left) (h1 : left ≤ 1048576) (hd : dItm x) : PFun X 121 [.agg ((eItm x).map .d), vi left] (vi (subI left (wItm x))) := by
  have hd0 := hd
  have hd0 : x.name.size ≤ 9223372036854775807 := hd0
  refine pfun_of Tryd.func121 rfl (by decide) Tryd.ntmps121 Tryd.results121 (by simp) rfl rfl ?_
  by_cases hn0 : left - (x.name.size : Int) < 0
  · have en0 : decide (left - (x.name.size : Int) < 0) = true := decide_eq_true hn0
    repeat' first
      | refine Z1 ?_ | refine Z2 ?_ | refine Z5 ?_ | refine Zg ?_ | refine Zo ?_ | refine ok_seq ?_ | refine Zp ?_ | refine ok_ret ?_ | refine x_ret_then ?_ | refine Zt ?_
    exact ret_vi (by rw [subI_over (by simp only [wItm]; omega)])
  have en0 : decide (left - (x.name.size : Int) < 0) = false := decide_eq_false hn0
  repeat' first
    | refine Z1 ?_ | refine Z2 ?_ | refine Z5 ?_ | refine Zg ?_ | refine Zo ?_ | refine ok_seq ?_ | refine Zq ?_ | refine ok_skip ?_ | refine ok_ret ?_ | refine x_normal_then ?_ | refine Zt ?_
  exact ret_vi (by rw [subI_in (left := left) (n := wItm x) (by simp only [wItm]; omega)]; (simp only [wItm] <;> omega))

theorem szCondS_ok (l : List (Cnd)) (left : Int) (h0 : 0 ≤ left) (h1 : left ≤ 1048576) (hd : dL (dCnd) l) : PFun X 104 [.d (.im (l.map eCnd)), vi left] (vi (subI left (wL (wCnd) l))) := by
  obtain ⟨hd1, hd2⟩ := hd
  simp only [mx] at hd1
  refine pfun_of Tryd.func104 rfl (by decide) Tryd.ntmps104 Tryd.results104 (by simp) rfl rfl ?_
  by_cases hlt : left - (l.length : Int) < 0
  · have e1 : decide (left - (l.length : Int) < 0) = true := decide_eq_true hlt
    repeat' first
      | refine Z1 ?_ | refine Z2 ?_ | refine Z5 ?_ | refine Zd ?_ | refine Zg ?_ | refine Zo ?_ | refine ok_seq ?_ | refine Zp ?_ | refine ok_ret ?_ | refine x_ret_then ?_ | refine Zt ?_
    exact ret_vi (by rw [subI_over (by simp only [wL]; omega)])
  · have e1 : decide (left - (l.length : Int) < 0) = false := decide_eq_false hlt
    repeat' first
      | refine Z1 ?_ | refine Z2 ?_ | refine Z5 ?_ | refine Zd ?_ | refine Zg ?_ | refine Zo ?_ | refine ok_seq ?_ | refine Zq ?_ | refine ok_block ?_ | refine ok_skip ?_ | refine x_normal_then ?_
    refine ok_for (ι := Nat × Int) (fun x => envL [(0, .d (.im (l.map eCnd))), (1, vi x.2), (4, vi 0), (5, vi x.1)]) (fun x => stL []) (fun x => x.1 ≤ l.length ∧ 0 ≤ x.2 ∧ x.2 ≤ left ∧ subI x.2 ((l.drop x.1).map (wCnd)).sum = subI left (wL (wCnd) l)) (fun x => l.length - x.1) (0, left - l.length) (⟨Nat.zero_le _, by simp only; omega, by simp only; omega, by simp only [List.drop_zero]; rw [subI_add (by omega)]; rfl⟩) (weak_mk rfl ⟨.refl _, .refl _, .refl _, .refl _, trivial⟩ trivial) (fun _ => Nat.le_refl 0) ?_
    rintro ⟨k, lf⟩ ⟨i1, i2, i3, i4⟩
    simp only at i1 i2 i3 i4
    rcases hx : l[k]? with _ | x
    · have hle := none_le hx
      have ek : decide ((k : Int) < (l.length : Int)) = false := decide_eq_false (by omega)
      rw [drop_none hx] at i4
      repeat' first
        | refine Z1 ?_ | refine Z2 ?_ | refine Z5 ?_ | refine Zd ?_ | refine Zo ?_ | refine ok_seq ?_ | refine Zq ?_ | refine ok_exit ?_ | refine ok_ret ?_ | refine x_normal_then ?_ | refine x_exit_here ?_ | refine Zv ?_ | refine Zt ?_
      exact ret_vi (by rw [← i4]; simp [subI]; omega)
    · obtain ⟨hdr, hlt2⟩ := drop_some hx
      have ek : decide ((k : Int) < (l.length : Int)) = true := decide_eq_true (by omega)
      rw [hdr, List.map_cons, List.sum_cons] at i4
      have hdx := hd2 x (List.mem_of_getElem? hx)
      by_cases hn : subI lf (wCnd x) < 0
      · have en : decide (subI lf (wCnd x) < 0) = true := decide_eq_true hn
        obtain ⟨hn1, hn2⟩ := subI_neg hn
        repeat' first
          | refine Z1 ?_ | refine Z2 ?_ | refine Z5 ?_ | refine Zc (szCond_ok x lf i2 (by omega) hdx) ?_ | refine Zd ?_ | refine Ze ?_ | refine Zo ?_ | refine ok_seq ?_ | refine Zp ?_ | refine ok_block ?_ | refine ok_skip ?_ | refine ok_ret ?_
          | refine x_normal_then ?_ | refine x_ret_then ?_ | refine x_ret_block ?_ | refine Zt ?_
        exact ret_vi (by rw [← i4, subI_over (by omega)])
      · have en : decide (subI lf (wCnd x) < 0) = false := decide_eq_false hn
        obtain ⟨hn1, hn2⟩ := subI_pos hn i2
        repeat' first
          | refine Z1 ?_ | refine Z2 ?_ | refine Z5 ?_ | refine Zc (szCond_ok x lf i2 (by omega) hdx) ?_ | refine Zd ?_ | refine Ze ?_ | refine Zf ?_ | refine Zo ?_ | refine ok_seq ?_ | refine ok_reg ?_ | refine Zp ?_ | refine Zq ?_
          | refine ok_block ?_ | refine ok_skip ?_ | refine x_normal_then ?_ | refine x_normal_block ?_
        exact ⟨(k + 1, subI lf (wCnd x)), ⟨by simp only; omega, by simp only; omega, by simp only; omega, by simp only; rw [hn2, subI_add hn1]; exact i4⟩, by (try simp only); omega, low_mk (Nat.zero_le _) ⟨⟨rfl, rfl⟩, ⟨rfl, rfl⟩, ⟨rfl, rfl⟩, ⟨rfl, rfl⟩, trivial⟩ trivial⟩

theorem szItemS_ok (l : List (Itm)) (left : Int) (h0 : 0 ≤ left) (h1 : left ≤ 1048576) (hd : dL (dItm) l) : PFun X 106 [.d (.im (l.map eItm)), vi left] (vi (subI left (wL (wItm) l))) := by
  obtain ⟨hd1, hd2⟩ := hd
  simp only [mx] at hd1
  refine pfun_of Tryd.func106 rfl (by decide) Tryd.ntmps106 Tryd.results106 (by simp) rfl rfl ?_
  by_cases hlt : left - (l.length : Int) < 0
  · have e1 : decide (left - (l.length : Int) < 0) = true := decide_eq_true hlt
    repeat' first
      | refine Z1 ?_ | refine Z2 ?_ | refine Z5 ?_ | refine Zd ?_ | refine Zg ?_ | refine Zo ?_ | refine ok_seq ?_ | refine Zp ?_ | refine ok_ret ?_ | refine x_ret_then ?_ | refine Zt ?_
    exact ret_vi (by rw [subI_over (by simp only [wL]; omega)])
  · have e1 : decide (left - (l.length : Int) < 0) = false := decide_eq_false hlt
    repeat' first
      | refine Z1 ?_ | refine Z2 ?_ | refine Z5 ?_ | refine Zd ?_ | refine Zg ?_ | refine Zo ?_ | refine ok_seq ?_ | refine Zq ?_ | refine ok_block ?_ | refine ok_skip ?_ | refine x_normal_then ?_
    refine ok_for (ι := Nat × Int) (fun x => envL [(0, .d (.im (l.map eItm))), (1, vi x.2), (4, vi 0), (5, vi x.1)]) (fun x => stL []) (fun x => x.1 ≤ l.length ∧ 0 ≤ x.2 ∧ x.2 ≤ left ∧ subI x.2 ((l.drop x.1).map (wItm)).sum = subI left (wL (wItm) l)) (fun x => l.length - x.1) (0, left - l.length) (⟨Nat.zero_le _, by simp only; omega, by simp only; omega, by simp only [List.drop_zero]; rw [subI_add (by omega)]; rfl⟩) (weak_mk rfl ⟨.refl _, .refl _, .refl _, .refl _, trivial⟩ trivial) (fun _ => Nat.le_refl 0) ?_
    rintro ⟨k, lf⟩ ⟨i1, i2, i3, i4⟩
    simp only at i1 i2 i3 i4
    rcases hx : l[k]? with _ | x
    · have hle := none_le hx
      have ek : decide ((k : Int) < (l.length : Int)) = false := decide_eq_false (by omega)
      rw [drop_none hx] at i4
      repeat' first
        | refine Z1 ?_ | refine Z2 ?_ | refine Z5 ?_ | refine Zd ?_ | refine Zo ?_ | refine ok_seq ?_ | refine Zq ?_ | refine ok_exit ?_ | refine ok_ret ?_ | refine x_normal_then ?_ | refine x_exit_here ?_ | refine Zv ?_ | refine Zt ?_
      exact ret_vi (by rw [← i4]; simp [subI]; omega)
    · obtain ⟨hdr, hlt2⟩ := drop_some hx
      have ek : decide ((k : Int) < (l.length : Int)) = true := decide_eq_true (by omega)
      rw [hdr, List.map_cons, List.sum_cons] at i4
      have hdx := hd2 x (List.mem_of_getElem? hx)
      by_cases hn : subI lf (wItm x) < 0
      · have en : decide (subI lf (wItm x) < 0) = true := decide_eq_true hn
        obtain ⟨hn1, hn2⟩ := subI_neg hn
        repeat' first
          | refine Z1 ?_ | refine Z2 ?_ | refine Z5 ?_ | refine Zc (szItem_ok x lf i2 (by omega) hdx) ?_ | refine Zd ?_ | refine Ze ?_ | refine Zo ?_ | refine ok_seq ?_ | refine Zp ?_ | refine ok_block ?_ | refine ok_skip ?_ | refine ok_ret ?_
          | refine x_normal_then ?_ | refine x_ret_then ?_ | refine x_ret_block ?_ | refine Zt ?_
        exact ret_vi (by rw [← i4, subI_over (by omega)])
      · have en : decide (subI lf (wItm x) < 0) = false := decide_eq_false hn
        obtain ⟨hn1, hn2⟩ := subI_pos hn i2
        repeat' first
          | refine Z1 ?_ | refine Z2 ?_ | refine Z5 ?_ | refine Zc (szItem_ok x lf i2 (by omega) hdx) ?_ | refine Zd ?_ | refine Ze ?_ | refine Zf ?_ | refine Zo ?_ | refine ok_seq ?_ | refine ok_reg ?_ | refine Zp ?_ | refine Zq ?_
          | refine ok_block ?_ | refine ok_skip ?_ | refine x_normal_then ?_ | refine x_normal_block ?_
        exact ⟨(k + 1, subI lf (wItm x)), ⟨by simp only; omega, by simp only; omega, by simp only; omega, by simp only; rw [hn2, subI_add hn1]; exact i4⟩, by (try simp only); omega, low_mk (Nat.zero_le _) ⟨⟨rfl, rfl⟩, ⟨rfl, rfl⟩, ⟨rfl, rfl⟩, ⟨rfl, rfl⟩, trivial⟩ trivial⟩

theorem szItemSS_ok (l : List (List Itm)) (left : Int) (h0 : 0 ≤ left) (h1 : left ≤ 1048576) (hd : dL (dL dItm) l) : PFun X 107 [.d (.im (l.map eItms)), vi left] (vi (subI left (wL (wL wItm) l))) := by
  obtain ⟨hd1, hd2⟩ := hd
  simp only [mx] at hd1
  refine pfun_of Tryd.func107 rfl (by decide) Tryd.ntmps107 Tryd.results107 (by simp) rfl rfl ?_
  by_cases hlt : left - (l.length : Int) < 0
  · have e1 : decide (left - (l.length : Int) < 0) = true := decide_eq_true hlt
    repeat' first
      | refine Z1 ?_ | refine Z2 ?_ | refine Z5 ?_ | refine Zd ?_ | refine Zg ?_ | refine Zo ?_ | refine ok_seq ?_ | refine Zp ?_ | refine ok_ret ?_ | refine x_ret_then ?_ | refine Zt ?_
    exact ret_vi (by rw [subI_over (by simp only [wL]; omega)])
  · have e1 : decide (left - (l.length : Int) < 0) = false := decide_eq_false hlt
    repeat' first
      | refine Z1 ?_ | refine Z2 ?_ | refine Z5 ?_ | refine Zd ?_ | refine Zg ?_ | refine Zo ?_ | refine ok_seq ?_ | refine Zq ?_ | refine ok_block ?_ | refine ok_skip ?_ | refine x_normal_then ?_
    refine ok_for (ι := Nat × Int) (fun x => envL [(0, .d (.im (l.map eItms))), (1, vi x.2), (4, vi 0), (5, vi x.1)]) (fun x => stL []) (fun x => x.1 ≤ l.length ∧ 0 ≤ x.2 ∧ x.2 ≤ left ∧ subI x.2 ((l.drop x.1).map (wL wItm)).sum = subI left (wL (wL wItm) l)) (fun x => l.length - x.1) (0, left - l.length) (⟨Nat.zero_le _, by simp only; omega, by simp only; omega, by simp only [List.drop_zero]; rw [subI_add (by omega)]; rfl⟩) (weak_mk rfl ⟨.refl _, .refl _, .refl _, .refl _, trivial⟩ trivial) (fun _ => Nat.le_refl 0) ?_
    rintro ⟨k, lf⟩ ⟨i1, i2, i3, i4⟩
    simp only at i1 i2 i3 i4
    rcases hx : l[k]? with _ | x
    · have hle := none_le hx
      have ek : decide ((k : Int) < (l.length : Int)) = false := decide_eq_false (by omega)
      rw [drop_none hx] at i4
      repeat' first
        | refine Z1 ?_ | refine Z2 ?_ | refine Z5 ?_ | refine Zd ?_ | refine Zo ?_ | refine ok_seq ?_ | refine Zq ?_ | refine ok_exit ?_ | refine ok_ret ?_ | refine x_normal_then ?_ | refine x_exit_here ?_ | refine Zv ?_ | refine Zt ?_
      exact ret_vi (by rw [← i4]; simp [subI]; omega)
    · obtain ⟨hdr, hlt2⟩ := drop_some hx
      have ek : decide ((k : Int) < (l.length : Int)) = true := decide_eq_true (by omega)
      rw [hdr, List.map_cons, List.sum_cons] at i4
      have hdx := hd2 x (List.mem_of_getElem? hx)
      by_cases hn : subI lf (wL wItm x) < 0
      · have en : decide (subI lf (wL wItm x) < 0) = true := decide_eq_true hn
        obtain ⟨hn1, hn2⟩ := subI_neg hn
        repeat' first
          | refine Z1 ?_ | refine Z2 ?_ | refine Z5 ?_ | refine Zc (szItemS_ok x lf i2 (by omega) hdx) ?_ | refine Zd ?_ | refine Ze ?_ | refine Zo ?_ | refine ok_seq ?_ | refine Zp ?_ | refine ok_block ?_ | refine ok_skip ?_
          | refine ok_ret ?_ | refine x_normal_then ?_ | refine x_ret_then ?_ | refine x_ret_block ?_ | refine Zt ?_
        exact ret_vi (by rw [← i4, subI_over (by omega)])
      · have en : decide (subI lf (wL wItm x) < 0) = false := decide_eq_false hn
        obtain ⟨hn1, hn2⟩ := subI_pos hn i2
        repeat' first
          | refine Z1 ?_ | refine Z2 ?_ | refine Z5 ?_ | refine Zc (szItemS_ok x lf i2 (by omega) hdx) ?_ | refine Zd ?_ | refine Ze ?_ | refine Zf ?_ | refine Zo ?_ | refine ok_seq ?_ | refine ok_reg ?_ | refine Zp ?_ | refine Zq ?_
          | refine ok_block ?_ | refine ok_skip ?_ | refine x_normal_then ?_ | refine x_normal_block ?_
        exact ⟨(k + 1, subI lf (wL wItm x)), ⟨by simp only; omega, by simp only; omega, by simp only; omega, by simp only; rw [hn2, subI_add hn1]; exact i4⟩, by (try simp only); omega, low_mk (Nat.zero_le _) ⟨⟨rfl, rfl⟩, ⟨rfl, rfl⟩, ⟨rfl, rfl⟩, ⟨rfl, rfl⟩, trivial⟩ trivial⟩

theorem szStringS_ok (l : List (ByteArray)) (left : Int) (h0 : 0 ≤ left) (h1 : left ≤ 1048576) (hd : dL (dStr) l) : PFun X 105 [.d (.im (l.map eStr)), vi left] (vi (subI left (wL (wStr) l))) := by
  obtain ⟨hd1, hd2⟩ := hd
  simp only [mx] at hd1
  refine pfun_of Tryd.func105 rfl (by decide) Tryd.ntmps105 Tryd.results105 (by simp) rfl rfl ?_
  by_cases hlt : left - (l.length : Int) < 0
  · have e1 : decide (left - (l.length : Int) < 0) = true := decide_eq_true hlt
    repeat' first
      | refine Z1 ?_ | refine Z2 ?_ | refine Z5 ?_ | refine Zd ?_ | refine Zg ?_ | refine Zo ?_ | refine ok_seq ?_ | refine Zp ?_ | refine ok_ret ?_ | refine x_ret_then ?_ | refine Zt ?_
    exact ret_vi (by rw [subI_over (by simp only [wL]; omega)])
  · have e1 : decide (left - (l.length : Int) < 0) = false := decide_eq_false hlt
    repeat' first
      | refine Z1 ?_ | refine Z2 ?_ | refine Z5 ?_ | refine Zd ?_ | refine Zg ?_ | refine Zo ?_ | refine ok_seq ?_ | refine Zq ?_ | refine ok_block ?_ | refine ok_skip ?_ | refine x_normal_then ?_
    refine ok_for (ι := Nat × Int) (fun x => envL [(0, .d (.im (l.map eStr))), (1, vi x.2), (4, vi 0), (5, vi x.1)]) (fun x => stL []) (fun x => x.1 ≤ l.length ∧ 0 ≤ x.2 ∧ x.2 ≤ left ∧ subI x.2 ((l.drop x.1).map (wStr)).sum = subI left (wL (wStr) l)) (fun x => l.length - x.1) (0, left - l.length) (⟨Nat.zero_le _, by simp only; omega, by simp only; omega, by simp only [List.drop_zero]; rw [subI_add (by omega)]; rfl⟩) (weak_mk rfl ⟨.refl _, .refl _, .refl _, .refl _, trivial⟩ trivial) (fun _ => Nat.le_refl 0) ?_
    rintro ⟨k, lf⟩ ⟨i1, i2, i3, i4⟩
    simp only at i1 i2 i3 i4
    rcases hx : l[k]? with _ | x
    · have hle := none_le hx
      have ek : decide ((k : Int) < (l.length : Int)) = false := decide_eq_false (by omega)
      rw [drop_none hx] at i4
      repeat' first
        | refine Z1 ?_ | refine Z2 ?_ | refine Z5 ?_ | refine Zd ?_ | refine Zo ?_ | refine ok_seq ?_ | refine Zq ?_ | refine ok_exit ?_ | refine ok_ret ?_ | refine x_normal_then ?_ | refine x_exit_here ?_ | refine Zv ?_ | refine Zt ?_
      exact ret_vi (by rw [← i4]; simp [subI]; omega)
    · obtain ⟨hdr, hlt2⟩ := drop_some hx
      have ek : decide ((k : Int) < (l.length : Int)) = true := decide_eq_true (by omega)
      rw [hdr, List.map_cons, List.sum_cons] at i4
      have hdx := hd2 x (List.mem_of_getElem? hx)
      simp only [dStr, mx] at hdx
      simp only [wStr] at i4
      by_cases hn : lf - (x.size : Int) < 0
      · have en : decide (lf - (x.size : Int) < 0) = true := decide_eq_true hn
        have hn1 : lf < (x.size : Int) := by omega
        repeat' first
          | refine Z1 ?_ | refine Z2 ?_ | refine Z5 ?_ | refine Zd ?_ | refine Ze ?_ | refine Zg ?_ | refine Zo ?_ | refine ok_seq ?_ | refine Zp ?_ | refine ok_block ?_ | refine ok_skip ?_ | refine ok_ret ?_ | refine x_normal_then ?_
          | refine x_ret_then ?_ | refine x_ret_block ?_ | refine Zt ?_
        exact ret_vi (by rw [← i4, subI_over (by omega)])
      · have en : decide (lf - (x.size : Int) < 0) = false := decide_eq_false hn
        have hn1 : (x.size : Int) ≤ lf := by omega
        repeat' first
          | refine Z1 ?_ | refine Z2 ?_ | refine Z5 ?_ | refine Zd ?_ | refine Ze ?_ | refine Zf ?_ | refine Zg ?_ | refine Zo ?_ | refine ok_seq ?_ | refine ok_reg ?_ | refine Zp ?_ | refine Zq ?_ | refine ok_block ?_ | refine ok_skip ?_
          | refine x_normal_then ?_ | refine x_normal_block ?_
        exact ⟨(k + 1, lf - (x.size : Int)), ⟨by simp only; omega, by simp only; omega, by simp only; omega, by simp only; rw [subI_add hn1]; exact i4⟩, by (try simp only); omega, low_mk (Nat.zero_le _) ⟨⟨rfl, rfl⟩, ⟨rfl, rfl⟩, ⟨rfl, rfl⟩, ⟨rfl, rfl⟩, trivial⟩ trivial⟩

theorem szVar_ok (x : Vr) (left : Int) (h0 : 0 ≤ left) (h1 : left ≤ 1048576) (hd : dVr x) : PFun X 91 [.agg ((eVr x).map .d), vi left] (vi (subI left (wVr x))) := by
  obtain ⟨hd0, hd1⟩ := hd
  have hd0 : x.name.size ≤ 9223372036854775807 := hd0
  refine pfun_of Tryd.func91 rfl (by decide) Tryd.ntmps91 Tryd.results91 (by simp) rfl rfl ?_
  by_cases hn0 : left - (x.name.size : Int) < 0
  · have en0 : decide (left - (x.name.size : Int) < 0) = true := decide_eq_true hn0
    repeat' first
      | refine Z1 ?_ | refine Z2 ?_ | refine Z5 ?_ | refine Zg ?_ | refine Zo ?_ | refine ok_seq ?_ | refine Zp ?_ | refine ok_ret ?_ | refine x_ret_then ?_ | refine Zt ?_
    exact ret_vi (by rw [subI_over (by simp only [wVr]; omega)])
  have en0 : decide (left - (x.name.size : Int) < 0) = false := decide_eq_false hn0
  by_cases hn1 : subI (left - (x.name.size : Int)) (wL wCnd x.clock) < 0
  · have en1 : decide (subI (left - (x.name.size : Int)) (wL wCnd x.clock) < 0) = true := decide_eq_true hn1
    obtain ⟨ha1, hb1⟩ := subI_neg hn1
    repeat' first
      | refine Z1 ?_ | refine Z2 ?_ | refine Z5 ?_ | refine Zc (szCondS_ok x.clock (left - (x.name.size : Int)) (by omega) (by omega) hd1) ?_ | refine Zg ?_ | refine Zo ?_ | refine ok_seq ?_ | refine Zp ?_ | refine Zq ?_ | refine ok_skip ?_
      | refine ok_ret ?_ | refine x_normal_then ?_ | refine x_ret_then ?_ | refine Zt ?_
    exact ret_vi (by rw [subI_over (by simp only [wVr]; omega)])
  have en1 : decide (subI (left - (x.name.size : Int)) (wL wCnd x.clock) < 0) = false := decide_eq_false hn1
  obtain ⟨ha1, hb1⟩ := subI_pos hn1 (by omega)
  repeat' first
    | refine Z1 ?_ | refine Z2 ?_ | refine Z5 ?_ | refine Zc (szCondS_ok x.clock (left - (x.name.size : Int)) (by omega) (by omega) hd1) ?_ | refine Zg ?_ | refine Zo ?_ | refine ok_seq ?_ | refine Zq ?_ | refine ok_skip ?_ | refine ok_ret ?_
    | refine x_normal_then ?_ | refine Zt ?_
  exact ret_vi (by rw [subI_in (left := left) (n := wVr x) (by simp only [wVr]; omega)]; (simp only [wVr] <;> omega))

theorem szVarS_ok (l : List (Vr)) (left : Int) (h0 : 0 ≤ left) (h1 : left ≤ 1048576) (hd : dL (dVr) l) : PFun X 66 [.d (.im (l.map eVr)), vi left] (vi (subI left (wL (wVr) l))) := by
  obtain ⟨hd1, hd2⟩ := hd
  simp only [mx] at hd1
  refine pfun_of Tryd.func66 rfl (by decide) Tryd.ntmps66 Tryd.results66 (by simp) rfl rfl ?_
  by_cases hlt : left - (l.length : Int) < 0
  · have e1 : decide (left - (l.length : Int) < 0) = true := decide_eq_true hlt
    repeat' first
      | refine Z1 ?_ | refine Z2 ?_ | refine Z5 ?_ | refine Zd ?_ | refine Zg ?_ | refine Zo ?_ | refine ok_seq ?_ | refine Zp ?_ | refine ok_ret ?_ | refine x_ret_then ?_ | refine Zt ?_
    exact ret_vi (by rw [subI_over (by simp only [wL]; omega)])
  · have e1 : decide (left - (l.length : Int) < 0) = false := decide_eq_false hlt
    repeat' first
      | refine Z1 ?_ | refine Z2 ?_ | refine Z5 ?_ | refine Zd ?_ | refine Zg ?_ | refine Zo ?_ | refine ok_seq ?_ | refine Zq ?_ | refine ok_block ?_ | refine ok_skip ?_ | refine x_normal_then ?_
    refine ok_for (ι := Nat × Int) (fun x => envL [(0, .d (.im (l.map eVr))), (1, vi x.2), (4, vi 0), (5, vi x.1)]) (fun x => stL []) (fun x => x.1 ≤ l.length ∧ 0 ≤ x.2 ∧ x.2 ≤ left ∧ subI x.2 ((l.drop x.1).map (wVr)).sum = subI left (wL (wVr) l)) (fun x => l.length - x.1) (0, left - l.length) (⟨Nat.zero_le _, by simp only; omega, by simp only; omega, by simp only [List.drop_zero]; rw [subI_add (by omega)]; rfl⟩) (weak_mk rfl ⟨.refl _, .refl _, .refl _, .refl _, trivial⟩ trivial) (fun _ => Nat.le_refl 0) ?_
    rintro ⟨k, lf⟩ ⟨i1, i2, i3, i4⟩
    simp only at i1 i2 i3 i4
    rcases hx : l[k]? with _ | x
    · have hle := none_le hx
      have ek : decide ((k : Int) < (l.length : Int)) = false := decide_eq_false (by omega)
      rw [drop_none hx] at i4
      repeat' first
        | refine Z1 ?_ | refine Z2 ?_ | refine Z5 ?_ | refine Zd ?_ | refine Zo ?_ | refine ok_seq ?_ | refine Zq ?_ | refine ok_exit ?_ | refine ok_ret ?_ | refine x_normal_then ?_ | refine x_exit_here ?_ | refine Zv ?_ | refine Zt ?_
      exact ret_vi (by rw [← i4]; simp [subI]; omega)
    · obtain ⟨hdr, hlt2⟩ := drop_some hx
      have ek : decide ((k : Int) < (l.length : Int)) = true := decide_eq_true (by omega)
      rw [hdr, List.map_cons, List.sum_cons] at i4
      have hdx := hd2 x (List.mem_of_getElem? hx)
      by_cases hn : subI lf (wVr x) < 0
      · have en : decide (subI lf (wVr x) < 0) = true := decide_eq_true hn
        obtain ⟨hn1, hn2⟩ := subI_neg hn
        repeat' first
          | refine Z1 ?_ | refine Z2 ?_ | refine Z5 ?_ | refine Zc (szVar_ok x lf i2 (by omega) hdx) ?_ | refine Zd ?_ | refine Ze ?_ | refine Zo ?_ | refine ok_seq ?_ | refine Zp ?_ | refine ok_block ?_ | refine ok_skip ?_ | refine ok_ret ?_
          | refine x_normal_then ?_ | refine x_ret_then ?_ | refine x_ret_block ?_ | refine Zt ?_
        exact ret_vi (by rw [← i4, subI_over (by omega)])
      · have en : decide (subI lf (wVr x) < 0) = false := decide_eq_false hn
        obtain ⟨hn1, hn2⟩ := subI_pos hn i2
        repeat' first
          | refine Z1 ?_ | refine Z2 ?_ | refine Z5 ?_ | refine Zc (szVar_ok x lf i2 (by omega) hdx) ?_ | refine Zd ?_ | refine Ze ?_ | refine Zf ?_ | refine Zo ?_ | refine ok_seq ?_ | refine ok_reg ?_ | refine Zp ?_ | refine Zq ?_
          | refine ok_block ?_ | refine ok_skip ?_ | refine x_normal_then ?_ | refine x_normal_block ?_
        exact ⟨(k + 1, subI lf (wVr x)), ⟨by simp only; omega, by simp only; omega, by simp only; omega, by simp only; rw [hn2, subI_add hn1]; exact i4⟩, by (try simp only); omega, low_mk (Nat.zero_le _) ⟨⟨rfl, rfl⟩, ⟨rfl, rfl⟩, ⟨rfl, rfl⟩, ⟨rfl, rfl⟩, trivial⟩ trivial⟩

theorem szEquation_ok (x : Eqn) (left : Int) (h0 : 0 ≤ left) (h1 : left ≤ 1048576) (hd : dEqn x) : PFun X 92 [.agg ((eEqn x).map .d), vi left] (vi (subI left (wEqn x))) := by
  obtain ⟨hd0, hd1, hd2, hd3⟩ := hd
  have hd2 : x.call.size ≤ 9223372036854775807 := hd2
  refine pfun_of Tryd.func92 rfl (by decide) Tryd.ntmps92 Tryd.results92 (by simp) rfl rfl ?_
  by_cases hn0 : subI (left) (wL wStr x.lhs) < 0
  · have en0 : decide (subI (left) (wL wStr x.lhs) < 0) = true := decide_eq_true hn0
    obtain ⟨ha0, hb0⟩ := subI_neg hn0
    repeat' first
      | refine Z1 ?_ | refine Z2 ?_ | refine Z5 ?_ | refine Zc (szStringS_ok x.lhs (left) (by omega) (by omega) hd0) ?_ | refine Zo ?_ | refine ok_seq ?_ | refine Zp ?_ | refine ok_ret ?_ | refine x_ret_then ?_ | refine Zt ?_
    exact ret_vi (by rw [subI_over (by simp only [wEqn]; omega)])
  have en0 : decide (subI (left) (wL wStr x.lhs) < 0) = false := decide_eq_false hn0
  obtain ⟨ha0, hb0⟩ := subI_pos hn0 (by omega)
  by_cases hn1 : subI (subI (left) (wL wStr x.lhs)) (wL wItm x.code) < 0
  · have en1 : decide (subI (subI (left) (wL wStr x.lhs)) (wL wItm x.code) < 0) = true := decide_eq_true hn1
    obtain ⟨ha1, hb1⟩ := subI_neg hn1
    repeat' first
      | refine Z1 ?_ | refine Z2 ?_ | refine Z5 ?_ | refine Zc (szStringS_ok x.lhs (left) (by omega) (by omega) hd0) ?_ | refine Zc (szItemS_ok x.code (subI (left) (wL wStr x.lhs)) (by omega) (by omega) hd1) ?_ | refine Zo ?_
      | refine ok_seq ?_ | refine Zp ?_ | refine Zq ?_ | refine ok_skip ?_ | refine ok_ret ?_ | refine x_normal_then ?_ | refine x_ret_then ?_ | refine Zt ?_
    exact ret_vi (by rw [subI_over (by simp only [wEqn]; omega)])
  have en1 : decide (subI (subI (left) (wL wStr x.lhs)) (wL wItm x.code) < 0) = false := decide_eq_false hn1
  obtain ⟨ha1, hb1⟩ := subI_pos hn1 (by omega)
  by_cases hn2 : subI (subI (left) (wL wStr x.lhs)) (wL wItm x.code) - (x.call.size : Int) < 0
  · have en2 : decide (subI (subI (left) (wL wStr x.lhs)) (wL wItm x.code) - (x.call.size : Int) < 0) = true := decide_eq_true hn2
    repeat' first
      | refine Z1 ?_ | refine Z2 ?_ | refine Z5 ?_ | refine Zc (szStringS_ok x.lhs (left) (by omega) (by omega) hd0) ?_ | refine Zc (szItemS_ok x.code (subI (left) (wL wStr x.lhs)) (by omega) (by omega) hd1) ?_ | refine Zg ?_ | refine Zo ?_
      | refine ok_seq ?_ | refine Zp ?_ | refine Zq ?_ | refine ok_skip ?_ | refine ok_ret ?_ | refine x_normal_then ?_ | refine x_ret_then ?_ | refine Zt ?_
    exact ret_vi (by rw [subI_over (by simp only [wEqn]; omega)])
  have en2 : decide (subI (subI (left) (wL wStr x.lhs)) (wL wItm x.code) - (x.call.size : Int) < 0) = false := decide_eq_false hn2
  by_cases hn3 : subI (subI (subI (left) (wL wStr x.lhs)) (wL wItm x.code) - (x.call.size : Int)) (wL (wL wItm) x.args) < 0
  · have en3 : decide (subI (subI (subI (left) (wL wStr x.lhs)) (wL wItm x.code) - (x.call.size : Int)) (wL (wL wItm) x.args) < 0) = true := decide_eq_true hn3
    obtain ⟨ha3, hb3⟩ := subI_neg hn3
    repeat' first
      | refine Z1 ?_ | refine Z2 ?_ | refine Z5 ?_ | refine Zc (szStringS_ok x.lhs (left) (by omega) (by omega) hd0) ?_ | refine Zc (szItemS_ok x.code (subI (left) (wL wStr x.lhs)) (by omega) (by omega) hd1) ?_
      | refine Zc (szItemSS_ok x.args (subI (subI (left) (wL wStr x.lhs)) (wL wItm x.code) - (x.call.size : Int)) (by omega) (by omega) hd3) ?_ | refine Zg ?_ | refine Zo ?_ | refine ok_seq ?_ | refine Zp ?_ | refine Zq ?_ | refine ok_skip ?_
      | refine ok_ret ?_ | refine x_normal_then ?_ | refine x_ret_then ?_ | refine Zt ?_
    exact ret_vi (by rw [subI_over (by simp only [wEqn]; omega)])
  have en3 : decide (subI (subI (subI (left) (wL wStr x.lhs)) (wL wItm x.code) - (x.call.size : Int)) (wL (wL wItm) x.args) < 0) = false := decide_eq_false hn3
  obtain ⟨ha3, hb3⟩ := subI_pos hn3 (by omega)
  repeat' first
    | refine Z1 ?_ | refine Z2 ?_ | refine Z5 ?_ | refine Zc (szStringS_ok x.lhs (left) (by omega) (by omega) hd0) ?_ | refine Zc (szItemS_ok x.code (subI (left) (wL wStr x.lhs)) (by omega) (by omega) hd1) ?_
    | refine Zc (szItemSS_ok x.args (subI (subI (left) (wL wStr x.lhs)) (wL wItm x.code) - (x.call.size : Int)) (by omega) (by omega) hd3) ?_ | refine Zg ?_ | refine Zo ?_ | refine ok_seq ?_ | refine Zq ?_ | refine ok_skip ?_
    | refine ok_ret ?_ | refine x_normal_then ?_ | refine Zt ?_
  exact ret_vi (by rw [subI_in (left := left) (n := wEqn x) (by simp only [wEqn]; omega)]; (simp only [wEqn] <;> omega))

theorem szEquationS_ok (l : List (Eqn)) (left : Int) (h0 : 0 ≤ left) (h1 : left ≤ 1048576) (hd : dL (dEqn) l) : PFun X 67 [.d (.im (l.map eEqn)), vi left] (vi (subI left (wL (wEqn) l))) := by
  obtain ⟨hd1, hd2⟩ := hd
  simp only [mx] at hd1
  refine pfun_of Tryd.func67 rfl (by decide) Tryd.ntmps67 Tryd.results67 (by simp) rfl rfl ?_
  by_cases hlt : left - (l.length : Int) < 0
  · have e1 : decide (left - (l.length : Int) < 0) = true := decide_eq_true hlt
    repeat' first
      | refine Z1 ?_ | refine Z2 ?_ | refine Z5 ?_ | refine Zd ?_ | refine Zg ?_ | refine Zo ?_ | refine ok_seq ?_ | refine Zp ?_ | refine ok_ret ?_ | refine x_ret_then ?_ | refine Zt ?_
    exact ret_vi (by rw [subI_over (by simp only [wL]; omega)])
  · have e1 : decide (left - (l.length : Int) < 0) = false := decide_eq_false hlt
    repeat' first
      | refine Z1 ?_ | refine Z2 ?_ | refine Z5 ?_ | refine Zd ?_ | refine Zg ?_ | refine Zo ?_ | refine ok_seq ?_ | refine Zq ?_ | refine ok_block ?_ | refine ok_skip ?_ | refine x_normal_then ?_
    refine ok_for (ι := Nat × Int) (fun x => envL [(0, .d (.im (l.map eEqn))), (1, vi x.2), (4, vi 0), (5, vi x.1)]) (fun x => stL []) (fun x => x.1 ≤ l.length ∧ 0 ≤ x.2 ∧ x.2 ≤ left ∧ subI x.2 ((l.drop x.1).map (wEqn)).sum = subI left (wL (wEqn) l)) (fun x => l.length - x.1) (0, left - l.length) (⟨Nat.zero_le _, by simp only; omega, by simp only; omega, by simp only [List.drop_zero]; rw [subI_add (by omega)]; rfl⟩) (weak_mk rfl ⟨.refl _, .refl _, .refl _, .refl _, trivial⟩ trivial) (fun _ => Nat.le_refl 0) ?_
    rintro ⟨k, lf⟩ ⟨i1, i2, i3, i4⟩
    simp only at i1 i2 i3 i4
    rcases hx : l[k]? with _ | x
    · have hle := none_le hx
      have ek : decide ((k : Int) < (l.length : Int)) = false := decide_eq_false (by omega)
      rw [drop_none hx] at i4
      repeat' first
        | refine Z1 ?_ | refine Z2 ?_ | refine Z5 ?_ | refine Zd ?_ | refine Zo ?_ | refine ok_seq ?_ | refine Zq ?_ | refine ok_exit ?_ | refine ok_ret ?_ | refine x_normal_then ?_ | refine x_exit_here ?_ | refine Zv ?_ | refine Zt ?_
      exact ret_vi (by rw [← i4]; simp [subI]; omega)
    · obtain ⟨hdr, hlt2⟩ := drop_some hx
      have ek : decide ((k : Int) < (l.length : Int)) = true := decide_eq_true (by omega)
      rw [hdr, List.map_cons, List.sum_cons] at i4
      have hdx := hd2 x (List.mem_of_getElem? hx)
      by_cases hn : subI lf (wEqn x) < 0
      · have en : decide (subI lf (wEqn x) < 0) = true := decide_eq_true hn
        obtain ⟨hn1, hn2⟩ := subI_neg hn
        repeat' first
          | refine Z1 ?_ | refine Z2 ?_ | refine Z5 ?_ | refine Zc (szEquation_ok x lf i2 (by omega) hdx) ?_ | refine Zd ?_ | refine Ze ?_ | refine Zo ?_ | refine ok_seq ?_ | refine Zp ?_ | refine ok_block ?_ | refine ok_skip ?_
          | refine ok_ret ?_ | refine x_normal_then ?_ | refine x_ret_then ?_ | refine x_ret_block ?_ | refine Zt ?_
        exact ret_vi (by rw [← i4, subI_over (by omega)])
      · have en : decide (subI lf (wEqn x) < 0) = false := decide_eq_false hn
        obtain ⟨hn1, hn2⟩ := subI_pos hn i2
        repeat' first
          | refine Z1 ?_ | refine Z2 ?_ | refine Z5 ?_ | refine Zc (szEquation_ok x lf i2 (by omega) hdx) ?_ | refine Zd ?_ | refine Ze ?_ | refine Zf ?_ | refine Zo ?_ | refine ok_seq ?_ | refine ok_reg ?_ | refine Zp ?_ | refine Zq ?_
          | refine ok_block ?_ | refine ok_skip ?_ | refine x_normal_then ?_ | refine x_normal_block ?_
        exact ⟨(k + 1, subI lf (wEqn x)), ⟨by simp only; omega, by simp only; omega, by simp only; omega, by simp only; rw [hn2, subI_add hn1]; exact i4⟩, by (try simp only); omega, low_mk (Nat.zero_le _) ⟨⟨rfl, rfl⟩, ⟨rfl, rfl⟩, ⟨rfl, rfl⟩, ⟨rfl, rfl⟩, trivial⟩ trivial⟩

theorem szNode_ok (x : Nod) (left : Int) (h0 : 0 ≤ left) (h1 : left ≤ 1048576) (hd : dNod x) : PFun X 36 [.agg ((eNod x).map .d), vi left] (vi (subI left (wNod x))) := by
  obtain ⟨hd0, hd1, hd2, hd3, hd4⟩ := hd
  have hd0 : x.name.size ≤ 9223372036854775807 := hd0
  refine pfun_of Tryd.func36 rfl (by decide) Tryd.ntmps36 Tryd.results36 (by simp) rfl rfl ?_
  by_cases hn0 : left - (x.name.size : Int) < 0
  · have en0 : decide (left - (x.name.size : Int) < 0) = true := decide_eq_true hn0
    repeat' first
      | refine Z1 ?_ | refine Z2 ?_ | refine Z5 ?_ | refine Zg ?_ | refine Zo ?_ | refine ok_seq ?_ | refine Zp ?_ | refine ok_ret ?_ | refine x_ret_then ?_ | refine Zt ?_
    exact ret_vi (by rw [subI_over (by simp only [wNod]; omega)])
  have en0 : decide (left - (x.name.size : Int) < 0) = false := decide_eq_false hn0
  by_cases hn1 : subI (left - (x.name.size : Int)) (wL wVr x.ins) < 0
  · have en1 : decide (subI (left - (x.name.size : Int)) (wL wVr x.ins) < 0) = true := decide_eq_true hn1
    obtain ⟨ha1, hb1⟩ := subI_neg hn1
    repeat' first
      | refine Z1 ?_ | refine Z2 ?_ | refine Z5 ?_ | refine Zc (szVarS_ok x.ins (left - (x.name.size : Int)) (by omega) (by omega) hd1) ?_ | refine Zg ?_ | refine Zo ?_ | refine ok_seq ?_ | refine Zp ?_ | refine Zq ?_ | refine ok_skip ?_
      | refine ok_ret ?_ | refine x_normal_then ?_ | refine x_ret_then ?_ | refine Zt ?_
    exact ret_vi (by rw [subI_over (by simp only [wNod]; omega)])
  have en1 : decide (subI (left - (x.name.size : Int)) (wL wVr x.ins) < 0) = false := decide_eq_false hn1
  obtain ⟨ha1, hb1⟩ := subI_pos hn1 (by omega)
  by_cases hn2 : subI (subI (left - (x.name.size : Int)) (wL wVr x.ins)) (wL wVr x.outs) < 0
  · have en2 : decide (subI (subI (left - (x.name.size : Int)) (wL wVr x.ins)) (wL wVr x.outs) < 0) = true := decide_eq_true hn2
    obtain ⟨ha2, hb2⟩ := subI_neg hn2
    repeat' first
      | refine Z1 ?_ | refine Z2 ?_ | refine Z5 ?_ | refine Zc (szVarS_ok x.ins (left - (x.name.size : Int)) (by omega) (by omega) hd1) ?_
      | refine Zc (szVarS_ok x.outs (subI (left - (x.name.size : Int)) (wL wVr x.ins)) (by omega) (by omega) hd2) ?_ | refine Zg ?_ | refine Zo ?_ | refine ok_seq ?_ | refine Zp ?_ | refine Zq ?_ | refine ok_skip ?_ | refine ok_ret ?_
      | refine x_normal_then ?_ | refine x_ret_then ?_ | refine Zt ?_
    exact ret_vi (by rw [subI_over (by simp only [wNod]; omega)])
  have en2 : decide (subI (subI (left - (x.name.size : Int)) (wL wVr x.ins)) (wL wVr x.outs) < 0) = false := decide_eq_false hn2
  obtain ⟨ha2, hb2⟩ := subI_pos hn2 (by omega)
  by_cases hn3 : subI (subI (subI (left - (x.name.size : Int)) (wL wVr x.ins)) (wL wVr x.outs)) (wL wVr x.vars) < 0
  · have en3 : decide (subI (subI (subI (left - (x.name.size : Int)) (wL wVr x.ins)) (wL wVr x.outs)) (wL wVr x.vars) < 0) = true := decide_eq_true hn3
    obtain ⟨ha3, hb3⟩ := subI_neg hn3
    repeat' first
      | refine Z1 ?_ | refine Z2 ?_ | refine Z5 ?_ | refine Zc (szVarS_ok x.ins (left - (x.name.size : Int)) (by omega) (by omega) hd1) ?_
      | refine Zc (szVarS_ok x.outs (subI (left - (x.name.size : Int)) (wL wVr x.ins)) (by omega) (by omega) hd2) ?_
      | refine Zc (szVarS_ok x.vars (subI (subI (left - (x.name.size : Int)) (wL wVr x.ins)) (wL wVr x.outs)) (by omega) (by omega) hd3) ?_ | refine Zg ?_ | refine Zo ?_ | refine ok_seq ?_ | refine Zp ?_ | refine Zq ?_ | refine ok_skip ?_
      | refine ok_ret ?_ | refine x_normal_then ?_ | refine x_ret_then ?_ | refine Zt ?_
    exact ret_vi (by rw [subI_over (by simp only [wNod]; omega)])
  have en3 : decide (subI (subI (subI (left - (x.name.size : Int)) (wL wVr x.ins)) (wL wVr x.outs)) (wL wVr x.vars) < 0) = false := decide_eq_false hn3
  obtain ⟨ha3, hb3⟩ := subI_pos hn3 (by omega)
  by_cases hn4 : subI (subI (subI (subI (left - (x.name.size : Int)) (wL wVr x.ins)) (wL wVr x.outs)) (wL wVr x.vars)) (wL wEqn x.eqs) < 0
  · have en4 : decide (subI (subI (subI (subI (left - (x.name.size : Int)) (wL wVr x.ins)) (wL wVr x.outs)) (wL wVr x.vars)) (wL wEqn x.eqs) < 0) = true := decide_eq_true hn4
    obtain ⟨ha4, hb4⟩ := subI_neg hn4
    repeat' first
      | refine Z1 ?_ | refine Z2 ?_ | refine Z5 ?_ | refine Zc (szVarS_ok x.ins (left - (x.name.size : Int)) (by omega) (by omega) hd1) ?_
      | refine Zc (szVarS_ok x.outs (subI (left - (x.name.size : Int)) (wL wVr x.ins)) (by omega) (by omega) hd2) ?_
      | refine Zc (szVarS_ok x.vars (subI (subI (left - (x.name.size : Int)) (wL wVr x.ins)) (wL wVr x.outs)) (by omega) (by omega) hd3) ?_
      | refine Zc (szEquationS_ok x.eqs (subI (subI (subI (left - (x.name.size : Int)) (wL wVr x.ins)) (wL wVr x.outs)) (wL wVr x.vars)) (by omega) (by omega) hd4) ?_ | refine Zg ?_ | refine Zo ?_ | refine ok_seq ?_ | refine Zp ?_
      | refine Zq ?_ | refine ok_skip ?_ | refine ok_ret ?_ | refine x_normal_then ?_ | refine x_ret_then ?_ | refine Zt ?_
    exact ret_vi (by rw [subI_over (by simp only [wNod]; omega)])
  have en4 : decide (subI (subI (subI (subI (left - (x.name.size : Int)) (wL wVr x.ins)) (wL wVr x.outs)) (wL wVr x.vars)) (wL wEqn x.eqs) < 0) = false := decide_eq_false hn4
  obtain ⟨ha4, hb4⟩ := subI_pos hn4 (by omega)
  repeat' first
    | refine Z1 ?_ | refine Z2 ?_ | refine Z5 ?_ | refine Zc (szVarS_ok x.ins (left - (x.name.size : Int)) (by omega) (by omega) hd1) ?_
    | refine Zc (szVarS_ok x.outs (subI (left - (x.name.size : Int)) (wL wVr x.ins)) (by omega) (by omega) hd2) ?_
    | refine Zc (szVarS_ok x.vars (subI (subI (left - (x.name.size : Int)) (wL wVr x.ins)) (wL wVr x.outs)) (by omega) (by omega) hd3) ?_
    | refine Zc (szEquationS_ok x.eqs (subI (subI (subI (left - (x.name.size : Int)) (wL wVr x.ins)) (wL wVr x.outs)) (wL wVr x.vars)) (by omega) (by omega) hd4) ?_ | refine Zg ?_ | refine Zo ?_ | refine ok_seq ?_ | refine Zq ?_
    | refine ok_skip ?_ | refine ok_ret ?_ | refine x_normal_then ?_ | refine Zt ?_
  exact ret_vi (by rw [subI_in (left := left) (n := wNod x) (by simp only [wNod]; omega)]; (simp only [wNod] <;> omega))

theorem szNodeS_ok (l : List (Nod)) (left : Int) (h0 : 0 ≤ left) (h1 : left ≤ 1048576) (hd : dL (dNod) l) : PFun X 12 [.d (.im (l.map eNod)), vi left] (vi (subI left (wL (wNod) l))) := by
  obtain ⟨hd1, hd2⟩ := hd
  simp only [mx] at hd1
  refine pfun_of Tryd.func12 rfl (by decide) Tryd.ntmps12 Tryd.results12 (by simp) rfl rfl ?_
  by_cases hlt : left - (l.length : Int) < 0
  · have e1 : decide (left - (l.length : Int) < 0) = true := decide_eq_true hlt
    repeat' first
      | refine Z1 ?_ | refine Z2 ?_ | refine Z5 ?_ | refine Zd ?_ | refine Zg ?_ | refine Zo ?_ | refine ok_seq ?_ | refine Zp ?_ | refine ok_ret ?_ | refine x_ret_then ?_ | refine Zt ?_
    exact ret_vi (by rw [subI_over (by simp only [wL]; omega)])
  · have e1 : decide (left - (l.length : Int) < 0) = false := decide_eq_false hlt
    repeat' first
      | refine Z1 ?_ | refine Z2 ?_ | refine Z5 ?_ | refine Zd ?_ | refine Zg ?_ | refine Zo ?_ | refine ok_seq ?_ | refine Zq ?_ | refine ok_block ?_ | refine ok_skip ?_ | refine x_normal_then ?_
    refine ok_for (ι := Nat × Int) (fun x => envL [(0, .d (.im (l.map eNod))), (1, vi x.2), (4, vi 0), (5, vi x.1)]) (fun x => stL []) (fun x => x.1 ≤ l.length ∧ 0 ≤ x.2 ∧ x.2 ≤ left ∧ subI x.2 ((l.drop x.1).map (wNod)).sum = subI left (wL (wNod) l)) (fun x => l.length - x.1) (0, left - l.length) (⟨Nat.zero_le _, by simp only; omega, by simp only; omega, by simp only [List.drop_zero]; rw [subI_add (by omega)]; rfl⟩) (weak_mk rfl ⟨.refl _, .refl _, .refl _, .refl _, trivial⟩ trivial) (fun _ => Nat.le_refl 0) ?_
    rintro ⟨k, lf⟩ ⟨i1, i2, i3, i4⟩
    simp only at i1 i2 i3 i4
    rcases hx : l[k]? with _ | x
    · have hle := none_le hx
      have ek : decide ((k : Int) < (l.length : Int)) = false := decide_eq_false (by omega)
      rw [drop_none hx] at i4
      repeat' first
        | refine Z1 ?_ | refine Z2 ?_ | refine Z5 ?_ | refine Zd ?_ | refine Zo ?_ | refine ok_seq ?_ | refine Zq ?_ | refine ok_exit ?_ | refine ok_ret ?_ | refine x_normal_then ?_ | refine x_exit_here ?_ | refine Zv ?_ | refine Zt ?_
      exact ret_vi (by rw [← i4]; simp [subI]; omega)
    · obtain ⟨hdr, hlt2⟩ := drop_some hx
      have ek : decide ((k : Int) < (l.length : Int)) = true := decide_eq_true (by omega)
      rw [hdr, List.map_cons, List.sum_cons] at i4
      have hdx := hd2 x (List.mem_of_getElem? hx)
      by_cases hn : subI lf (wNod x) < 0
      · have en : decide (subI lf (wNod x) < 0) = true := decide_eq_true hn
        obtain ⟨hn1, hn2⟩ := subI_neg hn
        repeat' first
          | refine Z1 ?_ | refine Z2 ?_ | refine Z5 ?_ | refine Zc (szNode_ok x lf i2 (by omega) hdx) ?_ | refine Zd ?_ | refine Ze ?_ | refine Zo ?_ | refine ok_seq ?_ | refine Zp ?_ | refine ok_block ?_ | refine ok_skip ?_ | refine ok_ret ?_
          | refine x_normal_then ?_ | refine x_ret_then ?_ | refine x_ret_block ?_ | refine Zt ?_
        exact ret_vi (by rw [← i4, subI_over (by omega)])
      · have en : decide (subI lf (wNod x) < 0) = false := decide_eq_false hn
        obtain ⟨hn1, hn2⟩ := subI_pos hn i2
        repeat' first
          | refine Z1 ?_ | refine Z2 ?_ | refine Z5 ?_ | refine Zc (szNode_ok x lf i2 (by omega) hdx) ?_ | refine Zd ?_ | refine Ze ?_ | refine Zf ?_ | refine Zo ?_ | refine ok_seq ?_ | refine ok_reg ?_ | refine Zp ?_ | refine Zq ?_
          | refine ok_block ?_ | refine ok_skip ?_ | refine x_normal_then ?_ | refine x_normal_block ?_
        exact ⟨(k + 1, subI lf (wNod x)), ⟨by simp only; omega, by simp only; omega, by simp only; omega, by simp only; rw [hn2, subI_add hn1]; exact i4⟩, by (try simp only); omega, low_mk (Nat.zero_le _) ⟨⟨rfl, rfl⟩, ⟨rfl, rfl⟩, ⟨rfl, rfl⟩, ⟨rfl, rfl⟩, trivial⟩ trivial⟩

theorem szProgram_ok (l : List Nod) (left : Int) (h0 : 0 ≤ left) (h1 : left ≤ 1048576) (hd : dL dNod l) : PFun X 5 [.agg [.d (.im (l.map eNod))], vi left] (vi (subI left (wL wNod l))) := by
  refine pfun_of Tryd.func5 rfl (by decide) Tryd.ntmps5 Tryd.results5 (by simp) rfl rfl ?_
  by_cases hn : subI left (wL wNod l) < 0
  · have en : decide (subI left (wL wNod l) < 0) = true := decide_eq_true hn
    obtain ⟨hn1, hn2⟩ := subI_neg hn
    repeat' first
      | refine Z1 ?_ | refine Z2 ?_ | refine Z5 ?_ | refine Zc (szNodeS_ok l left h0 h1 hd) ?_ | refine Zo ?_ | refine ok_seq ?_ | refine Zp ?_ | refine ok_ret ?_ | refine x_ret_then ?_ | refine Zt ?_
    exact ret_vi hn2.symm
  · have en : decide (subI left (wL wNod l) < 0) = false := decide_eq_false hn
    repeat' first
      | refine Z1 ?_ | refine Z2 ?_ | refine Z5 ?_ | refine Zc (szNodeS_ok l left h0 h1 hd) ?_ | refine Zo ?_ | refine ok_seq ?_ | refine Zq ?_ | refine ok_skip ?_ | refine ok_ret ?_ | refine x_normal_then ?_ | refine Zt ?_
    rfl

end Go.Pm
/- The size of a program's text; both Prints, and the law. -/
set_option linter.unusedVariables false
set_option linter.unusedSimpArgs false
namespace Go.Pm
open Go.Proofs
theorem wL_cons {α : Type} {w : α → Nat} (x : α) (l : List α) : wL w (x :: l) = (1 + w x) + wL w l := by
  simp only [wL, List.length_cons, List.map_cons, List.sum_cons]; omega
theorem wL_app {α : Type} {w : α → Nat} (a b : List α) : wL w (a ++ b) = wL w a + wL w b := by
  simp only [wL, List.length_append, List.map_append, List.sum_append]; omega
theorem cat_size {α : Type} {f : α → ByteArray} {w : α → Nat} {K : Nat} : ∀ {l : List α}, (∀ x ∈ l, (f x).size ≤ K * (1 + w x)) → (catT f l).size ≤ K * wL w l
  | [], _ => Nat.zero_le _
  | x :: l, h => by
    have ih := cat_size (l := l) fun y hy => h y (by simp [hy])
    have hx := h x (by simp)
    simp only [catT, ByteArray.size_append]
    rw [wL_cons, Nat.mul_add]
    exact Nat.add_le_add hx ih
theorem joinT_size {α : Type} {f : α → ByteArray} {w : α → Nat} {K : Nat} {sep : ByteArray} : ∀ {l : List α} (i : Nat), (∀ x ∈ l, (f x).size + sep.size ≤ K * (1 + w x)) → (joinT sep i (l.map f)).size ≤ K * wL w l
  | [], _, _ => Nat.zero_le _
  | x :: l, i, h => by
    have ih := joinT_size (l := l) (i + 1) fun y hy => h y (by simp [hy])
    have hx := h x (by simp)
    have hs : (if 0 < i then sep else B []).size ≤ sep.size := by
      split
      · exact Nat.le_refl _
      · exact Nat.zero_le _
    simp only [List.map_cons, joinT, ByteArray.size_append]
    rw [wL_cons, Nat.mul_add]
    omega
theorem kids_le : ∀ l : List ByteArray, (kid l 0).size + (kid l 1).size + (kid l 2).size ≤ (l.map ByteArray.size).sum
  | [] => Nat.le_refl _
  | [a] => by show a.size + 0 + 0 ≤ _; simp
  | [a, b] => by show a.size + b.size + 0 ≤ _; simp
  | a :: b :: c :: l => by
    show a.size + b.size + c.size ≤ _
    simp only [List.map_cons, List.sum_cons]; omega
theorem boolT_size (v : Int) : (boolT v).size ≤ 5 := by unfold boolT; split <;> decide
theorem textK_size {x : Itm} (h : -9223372036854775807 ≤ x.val ∧ x.val ≤ 9223372036854775807) (l : List ByteArray) : (textK x l).size ≤ 32 + x.name.size + (l.map ByteArray.size).sum := by
  have h1 := itoaB_len x.val (by omega) h.2
  have h2 := boolT_size x.val
  have h3 := otFind_size x.op
  have h4 := kids_le l
  have hw : (if x.val = 1 then B [32, 119, 104, 101, 110, 32] else B [32, 119, 104, 101, 110, 111, 116, 32]).size ≤ 8 := by split <;> decide
  have b1 : (B [40, 45, 32]).size = 3 := rfl
  have b2 : (B [41]).size = 1 := rfl
  have b3 : (B [40, 110, 111, 116, 32]).size = 5 := rfl
  have b4 : (B [40, 105, 102, 32]).size = 4 := rfl
  have b5 : (B [32, 116, 104, 101, 110, 32]).size = 6 := rfl
  have b6 : (B [32, 101, 108, 115, 101, 32]).size = 6 := rfl
  have b7 : (B [40]).size = 1 := rfl
  have b8 : (B [32, 102, 98, 121, 32]).size = 5 := rfl
  have b9 : (B [32]).size = 1 := rfl
  have b10 : (B [40, 109, 101, 114, 103, 101, 32]).size = 7 := rfl
  unfold textK
  by_cases k : x.op = 1
  · rw [if_pos k]; omega
  rw [if_neg k]
  clear k
  by_cases k : x.op = 2
  · rw [if_pos k]; omega
  rw [if_neg k]
  clear k
  by_cases k : x.op = 3
  · rw [if_pos k]; omega
  rw [if_neg k]
  clear k
  by_cases k : x.op = 4
  · rw [if_pos k]; simp only [ByteArray.size_append]; omega
  rw [if_neg k]
  clear k
  by_cases k : x.op = 5
  · rw [if_pos k]; simp only [ByteArray.size_append]; omega
  rw [if_neg k]
  clear k
  by_cases k : x.op = 20
  · rw [if_pos k]; simp only [ByteArray.size_append]; omega
  rw [if_neg k]
  clear k
  by_cases k : x.op = 21
  · rw [if_pos k]; simp only [ByteArray.size_append]; omega
  rw [if_neg k]
  clear k
  by_cases k : x.op = 22
  · rw [if_pos k]; simp only [ByteArray.size_append]; omega
  rw [if_neg k]
  clear k
  by_cases k : x.op = 23
  · rw [if_pos k]; simp only [ByteArray.size_append]; omega
  rw [if_neg k]
  clear k
  by_cases k : x.op = 24
  · rw [if_pos k]; simp only [ByteArray.size_append]; omega
  rw [if_neg k]
  clear k
  simp only [ByteArray.size_append]; omega
def valR (x : Itm) : Prop := -9223372036854775807 ≤ x.val ∧ x.val ≤ 9223372036854775807
mutual
theorem textT_size : ∀ t : Tm, (∀ x ∈ flat t, valR x) → (textT t).size ≤ 32 * wL wItm (flat t)
  | .mk x i ks, h => by
    have ih := textTs_size ks fun y hy => h y (by simp [flat, hy])
    have hx := textK_size (h x mem_top) (textTs ks)
    have e : wL wItm [x] = 1 + x.name.size := by simp [wL, wItm]
    simp only [textT, flat]
    rw [wL_app, e]
    omega
theorem textTs_size : ∀ ts : List Tm, (∀ x ∈ flatL ts, valR x) → ((textTs ts).map ByteArray.size).sum ≤ 32 * wL wItm (flatL ts)
  | [], _ => Nat.zero_le _
  | t :: ts, h => by
    have h1 := textT_size t fun y hy => h y (by simp [flatL, hy])
    have h2 := textTs_size ts fun y hy => h y (by simp [flatL, hy])
    simp only [textTs, flatL, List.map_cons, List.sum_cons]
    rw [wL_app]
    omega
end
theorem code_size {c : List Itm} {t : Tm} (g : Good c t) : (codeX c).size ≤ 32 * wL wItm c := by
  unfold codeX
  rw [good_I g]
  have := textT_size t fun x hx => (g.2.2.2.2.2 x hx).1.2
  rw [g.2.2.1] at this
  exact this
theorem decl_size (v : Vr) : (declT v).size ≤ 32 * (1 + wVr v) - 2 := by
  have h1 : (catT clkT v.clock).size ≤ 32 * wL wCnd v.clock := cat_size fun c _ => by
    have hw : (if c.on = true then B [32, 119, 104, 101, 110, 32] else B [32, 119, 104, 101, 110, 111, 116, 32]).size ≤ 8 := by split <;> decide
    unfold clkT wCnd
    rw [ByteArray.size_append]
    omega
  have h2 : (tyD v.type).size ≤ 4 := by unfold tyD; split <;> decide
  have b1 : (B [58, 32]).size = 2 := rfl
  unfold declT wVr
  simp only [ByteArray.size_append]
  omega
theorem decls_size (l : List Vr) : (declsX l).size ≤ 32 * wL wVr l := joinT_size 0 fun v _ => by
  have := decl_size v
  have b1 : (B [59, 32]).size = 2 := rfl
  omega
theorem eq_size {e : Eqn} (h : okE e) : (eqX e).size ≤ 32 * (1 + wEqn e) := by
  have h1 : (joinT (B [44, 32]) 0 e.lhs).size ≤ 32 * wL wStr e.lhs := by
    have := joinT_size (f := id) (w := wStr) (K := 32) (sep := B [44, 32]) (l := e.lhs) 0 fun x _ => by
      have b1 : (B [44, 32]).size = 2 := rfl
      unfold wStr id; omega
    rwa [List.map_id] at this
  have h2 : (eqBody e).size ≤ 32 * (wL wItm e.code + e.call.size + wL (wL wItm) e.args) + 2 := by
    unfold eqBody
    split
    · rename_i hc
      obtain ⟨t, g⟩ := h.2.2.1 hc
      have := code_size g
      omega
    · rename_i hc
      have := joinT_size (f := codeX) (w := wL wItm) (K := 32) (sep := B [44, 32]) (l := e.args) 0 fun a ha => by
        obtain ⟨t, g⟩ := (h.2.2.2 hc).2 a ha
        have := code_size g
        have b1 : (B [44, 32]).size = 2 := rfl
        omega
      have b1 : (B [40]).size = 1 := rfl
      have b2 : (B [41]).size = 1 := rfl
      simp only [ByteArray.size_append]
      omega
  have b1 : (B [32, 32]).size = 2 := rfl
  have b2 : (B [32, 61, 32]).size = 3 := rfl
  have b3 : (B [59, 10]).size = 2 := rfl
  unfold eqX eqH wEqn
  simp only [ByteArray.size_append]
  omega
theorem nod_size {n : Nod} (h : okN n) : (nodX n).size ≤ 64 * (1 + wNod n) := by
  have h1 := decls_size n.ins
  have h2 := decls_size n.outs
  have h3 : (varX n).size ≤ 6 + 32 * wL wVr n.vars := by
    have h3 := decls_size n.vars
    have b1 : (B [118, 97, 114, 32]).size = 4 := rfl
    have b2 : (B [59, 10]).size = 2 := rfl
    unfold varX
    split
    · simp only [ByteArray.size_append]; omega
    · exact Nat.zero_le _
  have h4 : (catT eqX n.eqs).size ≤ 32 * wL wEqn n.eqs := cat_size fun e he => eq_size (h.2.2.2.2 e he)
  have b1 : (B [110, 111, 100, 101, 32]).size = 5 := rfl
  have b2 : (B [40]).size = 1 := rfl
  have b3 : (B [41, 32, 114, 101, 116, 117, 114, 110, 115, 32, 40]).size = 11 := rfl
  have b4 : (B [41, 10]).size = 2 := rfl
  have b5 : (B [108, 101, 116, 10]).size = 4 := rfl
  have b6 : (B [116, 101, 108, 10]).size = 4 := rfl
  unfold nodX nodH wNod
  simp only [ByteArray.size_append]
  omega
theorem prog_in {p : List Nod} (hw : wL wNod p ≤ 1048576) (h : shapeI p = true) : 0 < p.length ∧ (∀ n ∈ p, okN n) ∧ (progX p).size ≤ 140737488355328 := by
  unfold shapeI at h
  split at h
  · cases h
  rename_i q
  have hok : ∀ n ∈ p, okN n := fun n hn => nod_in (List.all_eq_true.1 h n hn) (by
    have := wL_mem (w := wNod) hn
    simp only [wL] at hw
    omega)
  refine ⟨by omega, hok, ?_⟩
  have : (progX p).size ≤ 64 * wL wNod p := cat_size fun n hn => nod_size (hok n hn)
  omega
attribute [local irreducible] AR Ok inBlock andThen endQ aoper
set_option maxHeartbeats 1000000
theorem iprint_ok (p : List Nod) (hw : wL wNod p ≤ 1048576) : PFun X 8 [.agg [.d (.im (p.map eNod))]] (vs (if shapeI p then progX p else B [])) := by
  have hsk := shape_ok p hw
  cases h : shapeI p with
  | true =>
    obtain ⟨a, b, c⟩ := prog_in hw h
    exact ip_s p hw a h b c
  | false =>
    have h2 : (!false) = true := rfl
    rw [h] at hsk
    refine pfun_of Tryd.func8 rfl (by decide) Tryd.ntmps8 Tryd.results8 (by simp) rfl rfl ?_
    repeat' first
      | refine Z1 ?_ | refine Z2 ?_ | refine Z3 ?_ | refine Z4 ?_ | refine Z5 ?_ | refine Z6 ?_ | refine Z7 ?_ | refine Z8 ?_ | refine Z9 ?_ | refine Za (fun hc => ?_) (fun hc => ?_) | refine Zb (fun hc => ?_) (fun hc => ?_)
      | refine Zc (hsk) ?_ | refine Zd ?_ | refine Ze ?_ | refine Zf ?_ | refine Zg ?_ | refine Zh ?_ | refine Zi ?_ | refine Zj ?_ | refine Zk ?_ | refine Zl ?_ | refine Zm ?_ | refine Zn (fun hc => ?_) (fun hc => ?_) | refine Zo ?_
      | refine ok_seq ?_ | refine ok_reg ?_ | refine Zp ?_ | refine Zq ?_ | refine Zr (fun hc => ?_) (fun hc => ?_) | refine ok_block ?_ | refine ok_exit ?_ | refine ok_skip ?_ | refine ok_ret ?_ | refine x_normal_then ?_
      | refine x_exit_here ?_ | refine Zs ?_ | refine Zv ?_ | refine x_ret_then ?_ | refine x_ret_block ?_ | refine x_normal_block ?_ | refine Zt ?_ | refine Zu ?_
    rfl
theorem sprint_ok (p : List Nod) (hw : wL wNod p ≤ 1048576) : PFun X 6 [.agg [.d (.im (p.map eNod))]] (vs (if shapeI p then progX p else B [])) := by
  have hsk := sshape_ok p hw
  rw [← shape_eq] at hsk
  cases h : shapeI p with
  | true =>
    obtain ⟨a, b, c⟩ := prog_in hw h
    exact sp_s p hw (by rw [← shape_eq]; exact h) b c
  | false =>
    have h2 : (!false) = true := rfl
    rw [h] at hsk
    refine pfun_of Tryd.func6 rfl (by decide) Tryd.ntmps6 Tryd.results6 (by simp) rfl rfl ?_
    repeat' first
      | refine Z1 ?_ | refine Z2 ?_ | refine Z3 ?_ | refine Z4 ?_ | refine Z5 ?_ | refine Z6 ?_ | refine Z7 ?_ | refine Z8 ?_ | refine Z9 ?_ | refine Za (fun hc => ?_) (fun hc => ?_) | refine Zb (fun hc => ?_) (fun hc => ?_)
      | refine Zc (hsk) ?_ | refine Zd ?_ | refine Ze ?_ | refine Zf ?_ | refine Zg ?_ | refine Zh ?_ | refine Zi ?_ | refine Zj ?_ | refine Zk ?_ | refine Zl ?_ | refine Zm ?_ | refine Zn (fun hc => ?_) (fun hc => ?_) | refine Zo ?_
      | refine ok_seq ?_ | refine ok_reg ?_ | refine Zp ?_ | refine Zq ?_ | refine Zr (fun hc => ?_) (fun hc => ?_) | refine ok_block ?_ | refine ok_exit ?_ | refine ok_skip ?_ | refine ok_ret ?_ | refine x_normal_then ?_
      | refine x_exit_here ?_ | refine Zs ?_ | refine Zv ?_ | refine x_ret_then ?_ | refine x_ret_block ?_ | refine x_normal_block ?_ | refine Zt ?_ | refine Zu ?_
    rfl
theorem law_print (p : List Nod) (hd : dL dNod p) : PFun X 3 [.agg [.d (.im (p.map eNod))]] (vb true) := by
  have ht : (!true) = false := rfl
  refine pfun_of Tryd.func3 rfl (by decide) Tryd.ntmps3 Tryd.results3 (by simp) rfl rfl ?_
  by_cases hn : subI 1048576 (wL wNod p) < 0
  · have e1 : decide (subI 1048576 (wL wNod p) < 0) = true := decide_eq_true hn
    repeat' first
      | refine Z1 ?_ | refine Z2 ?_ | refine Z3 ?_ | refine Z4 ?_ | refine Z5 ?_ | refine Z6 ?_ | refine Z7 ?_ | refine Z8 ?_ | refine Z9 ?_ | refine Za (fun hc => ?_) (fun hc => ?_) | refine Zb (fun hc => ?_) (fun hc => ?_)
      | refine Zc (szProgram_ok p 1048576 (by omega) (by omega) hd) ?_ | refine Zd ?_ | refine Ze ?_ | refine Zf ?_ | refine Zg ?_ | refine Zh ?_ | refine Zi ?_ | refine Zj ?_ | refine Zk ?_ | refine Zl ?_ | refine Zm ?_
      | refine Zn (fun hc => ?_) (fun hc => ?_) | refine Zo ?_ | refine ok_seq ?_ | refine ok_reg ?_ | refine Zp ?_ | refine Zq ?_ | refine Zr (fun hc => ?_) (fun hc => ?_) | refine ok_block ?_ | refine ok_exit ?_ | refine ok_skip ?_
      | refine ok_ret ?_ | refine x_normal_then ?_ | refine x_exit_here ?_ | refine Zs ?_ | refine Zv ?_ | refine x_ret_then ?_ | refine x_ret_block ?_ | refine x_normal_block ?_ | refine Zt ?_ | refine Zu ?_
    rfl
  · have e1 : decide (subI 1048576 (wL wNod p) < 0) = false := decide_eq_false hn
    obtain ⟨h1, h2⟩ := subI_pos hn (by omega)
    have hw : wL wNod p ≤ 1048576 := by omega
    have hs := sprint_ok p hw
    have hi := iprint_ok p hw
    generalize (if shapeI p then progX p else B []) = tx at hs hi
    have e2 : decide (tx ≠ tx) = false := decide_eq_false (fun h => h rfl)
    repeat' first
      | refine Z1 ?_ | refine Z2 ?_ | refine Z3 ?_ | refine Z4 ?_ | refine Z5 ?_ | refine Z6 ?_ | refine Z7 ?_ | refine Z8 ?_ | refine Z9 ?_ | refine Za (fun hc => ?_) (fun hc => ?_) | refine Zb (fun hc => ?_) (fun hc => ?_)
      | refine Zc (szProgram_ok p 1048576 (by omega) (by omega) hd) ?_ | refine Zc (toProgram_ok p hw) ?_ | refine Zc (hs) ?_ | refine Zc (hi) ?_ | refine Zc (eqProgram_ok p hw) ?_ | refine Zd ?_ | refine Ze ?_ | refine Zf ?_ | refine Zg ?_
      | refine Zh ?_ | refine Zi ?_ | refine Zj ?_ | refine Zk ?_ | refine Zl ?_ | refine Zm ?_ | refine Zn (fun hc => ?_) (fun hc => ?_) | refine Zw ?_ | refine Zx ?_ | refine Zy ?_
      | refine Zz (Zc (szProgram_ok p 1048576 (by omega) (by omega) hd) ⟨rfl, rfl⟩) ?_ | refine Zz (Zc (toProgram_ok p hw) ⟨rfl, rfl⟩) ?_ | refine Zz (Zc (hs) ⟨rfl, rfl⟩) ?_ | refine Zz (Zc (hi) ⟨rfl, rfl⟩) ?_
      | refine Zz (Zc (eqProgram_ok p hw) ⟨rfl, rfl⟩) ?_ | refine Zz (Zd ⟨rfl, rfl⟩) ?_ | refine Zz (Ze ⟨rfl, rfl⟩) ?_ | refine Zz (Zf ⟨rfl, rfl⟩) ?_ | refine Zz (Zg ⟨rfl, rfl⟩) ?_ | refine Zz (Zh ⟨rfl, rfl⟩) ?_
      | refine Zz (Zi ⟨rfl, rfl⟩) ?_ | refine Zz (Zj ⟨rfl, rfl⟩) ?_ | refine Zz (Zk ⟨rfl, rfl⟩) ?_ | refine Zz (Zl ⟨rfl, rfl⟩) ?_ | refine Zz (Zm ⟨rfl, rfl⟩) ?_ | refine Zo ?_ | refine ok_seq ?_ | refine ok_reg ?_
      | refine ok_draw X_mixed (by decide +kernel) ?_ | refine Zp ?_ | refine Zq ?_ | refine Zr (fun hc => ?_) (fun hc => ?_) | refine ok_block ?_ | refine ok_exit ?_ | refine ok_skip ?_ | refine ok_ret ?_ | refine x_normal_then ?_
      | refine x_exit_here ?_ | refine Zs ?_ | refine Zv ?_ | refine x_ret_then ?_ | refine x_ret_block ?_ | refine x_normal_block ?_ | refine Zt ?_ | refine Zu ?_
    rfl
end Go.Pm
