/- The laws' size functions (printed by gen_sz.py). -/
import Derived.Test.YtghgkmifoiokjaaDoorCf
set_option linter.unusedVariables false
set_option linter.unusedSimpArgs false
namespace Go.Pm
attribute [local irreducible] AR Ok inBlock andThen endQ aoper
set_option maxHeartbeats 1000000
open Go.Proofs

theorem szCond_ok (x : Cnd) (left : Int) (h0 : 0 ≤ left) (h1 : left ≤ 1048576) (hd : dCnd x) : PFun X 69 [.agg ((eCnd x).map .d), vi left] (vi (subI left (wCnd x))) := by
  have hd0 := hd
  have hd0 : x.name.size ≤ 9223372036854775807 := hd0
  refine pfun_of Tryd.func69 rfl (by decide) Tryd.ntmps69 Tryd.results69 (by simp) rfl rfl ?_
  by_cases hn0 : left - (x.name.size : Int) < 0
  · have en0 : decide (left - (x.name.size : Int) < 0) = true := decide_eq_true hn0
    repeat' first
      | refine Z1 ?_ | refine Z2 ?_ | refine Z3 ?_ | refine Z4 ?_ | refine Z5 ?_ | refine Z6 ?_ | refine Z7 ?_ | refine Z8 ?_ | refine Z9 ?_ | refine Za (fun hc => ?_) (fun hc => ?_) | refine Zb (fun hc => ?_) (fun hc => ?_) | refine Zd ?_
      | refine Ze ?_ | refine Zf ?_ | refine Zg ?_ | refine Zh ?_ | refine Zi ?_ | refine Zj ?_ | refine Zk ?_ | refine Zl ?_ | refine Zm ?_ | refine Zn (fun hc => ?_) (fun hc => ?_) | refine Zo ?_ | refine ok_seq ?_ | refine ok_reg ?_
      | refine Zp ?_ | refine Zq ?_ | refine Zr (fun hc => ?_) (fun hc => ?_) | refine ok_block ?_ | refine ok_exit ?_ | refine ok_skip ?_ | refine ok_ret ?_ | refine x_normal_then ?_ | refine x_exit_here ?_ | refine Zs ?_ | refine Zv ?_
      | refine x_ret_then ?_ | refine x_ret_block ?_ | refine x_normal_block ?_ | refine Zt ?_ | refine Zu ?_
    exact ret_vi (by rw [subI_over (by simp only [wCnd]; omega)])
  have en0 : decide (left - (x.name.size : Int) < 0) = false := decide_eq_false hn0
  repeat' first
    | refine Z1 ?_ | refine Z2 ?_ | refine Z3 ?_ | refine Z4 ?_ | refine Z5 ?_ | refine Z6 ?_ | refine Z7 ?_ | refine Z8 ?_ | refine Z9 ?_ | refine Za (fun hc => ?_) (fun hc => ?_) | refine Zb (fun hc => ?_) (fun hc => ?_) | refine Zd ?_
    | refine Ze ?_ | refine Zf ?_ | refine Zg ?_ | refine Zh ?_ | refine Zi ?_ | refine Zj ?_ | refine Zk ?_ | refine Zl ?_ | refine Zm ?_ | refine Zn (fun hc => ?_) (fun hc => ?_) | refine Zo ?_ | refine ok_seq ?_ | refine ok_reg ?_
    | refine Zp ?_ | refine Zq ?_ | refine Zr (fun hc => ?_) (fun hc => ?_) | refine ok_block ?_ | refine ok_exit ?_ | refine ok_skip ?_ | refine ok_ret ?_ | refine x_normal_then ?_ | refine x_exit_here ?_ | refine Zs ?_ | refine Zv ?_
    | refine x_ret_then ?_ | refine x_ret_block ?_ | refine x_normal_block ?_ | refine Zt ?_ | refine Zu ?_
  exact ret_vi (by rw [subI_in (left := left) (n := wCnd x) (by simp only [wCnd]; omega)]; (simp only [wCnd] <;> omega))

theorem szItem_ok (x : Itm) (left : Int) (h0 : 0 ≤ left) (h1 : left ≤ 1048576) (hd : dItm x) : PFun X 70 [.agg ((eItm x).map .d), vi left] (vi (subI left (wItm x))) := by
  have hd0 := hd
  have hd0 : x.name.size ≤ 9223372036854775807 := hd0
  refine pfun_of Tryd.func70 rfl (by decide) Tryd.ntmps70 Tryd.results70 (by simp) rfl rfl ?_
  by_cases hn0 : left - (x.name.size : Int) < 0
  · have en0 : decide (left - (x.name.size : Int) < 0) = true := decide_eq_true hn0
    repeat' first
      | refine Z1 ?_ | refine Z2 ?_ | refine Z3 ?_ | refine Z4 ?_ | refine Z5 ?_ | refine Z6 ?_ | refine Z7 ?_ | refine Z8 ?_ | refine Z9 ?_ | refine Za (fun hc => ?_) (fun hc => ?_) | refine Zb (fun hc => ?_) (fun hc => ?_) | refine Zd ?_
      | refine Ze ?_ | refine Zf ?_ | refine Zg ?_ | refine Zh ?_ | refine Zi ?_ | refine Zj ?_ | refine Zk ?_ | refine Zl ?_ | refine Zm ?_ | refine Zn (fun hc => ?_) (fun hc => ?_) | refine Zo ?_ | refine ok_seq ?_ | refine ok_reg ?_
      | refine Zp ?_ | refine Zq ?_ | refine Zr (fun hc => ?_) (fun hc => ?_) | refine ok_block ?_ | refine ok_exit ?_ | refine ok_skip ?_ | refine ok_ret ?_ | refine x_normal_then ?_ | refine x_exit_here ?_ | refine Zs ?_ | refine Zv ?_
      | refine x_ret_then ?_ | refine x_ret_block ?_ | refine x_normal_block ?_ | refine Zt ?_ | refine Zu ?_
    exact ret_vi (by rw [subI_over (by simp only [wItm]; omega)])
  have en0 : decide (left - (x.name.size : Int) < 0) = false := decide_eq_false hn0
  repeat' first
    | refine Z1 ?_ | refine Z2 ?_ | refine Z3 ?_ | refine Z4 ?_ | refine Z5 ?_ | refine Z6 ?_ | refine Z7 ?_ | refine Z8 ?_ | refine Z9 ?_ | refine Za (fun hc => ?_) (fun hc => ?_) | refine Zb (fun hc => ?_) (fun hc => ?_) | refine Zd ?_
    | refine Ze ?_ | refine Zf ?_ | refine Zg ?_ | refine Zh ?_ | refine Zi ?_ | refine Zj ?_ | refine Zk ?_ | refine Zl ?_ | refine Zm ?_ | refine Zn (fun hc => ?_) (fun hc => ?_) | refine Zo ?_ | refine ok_seq ?_ | refine ok_reg ?_
    | refine Zp ?_ | refine Zq ?_ | refine Zr (fun hc => ?_) (fun hc => ?_) | refine ok_block ?_ | refine ok_exit ?_ | refine ok_skip ?_ | refine ok_ret ?_ | refine x_normal_then ?_ | refine x_exit_here ?_ | refine Zs ?_ | refine Zv ?_
    | refine x_ret_then ?_ | refine x_ret_block ?_ | refine x_normal_block ?_ | refine Zt ?_ | refine Zu ?_
  exact ret_vi (by rw [subI_in (left := left) (n := wItm x) (by simp only [wItm]; omega)]; (simp only [wItm] <;> omega))

theorem szCondS_ok (l : List (Cnd)) (left : Int) (h0 : 0 ≤ left) (h1 : left ≤ 1048576) (hd : dL (dCnd) l) : PFun X 57 [.d (.im (l.map eCnd)), vi left] (vi (subI left (wL (wCnd) l))) := by
  obtain ⟨hd1, hd2⟩ := hd
  simp only [mx] at hd1
  refine pfun_of Tryd.func57 rfl (by decide) Tryd.ntmps57 Tryd.results57 (by simp) rfl rfl ?_
  by_cases hlt : left - (l.length : Int) < 0
  · have e1 : decide (left - (l.length : Int) < 0) = true := decide_eq_true hlt
    repeat' first
      | refine Z1 ?_ | refine Z2 ?_ | refine Z3 ?_ | refine Z4 ?_ | refine Z5 ?_ | refine Z6 ?_ | refine Z7 ?_ | refine Z8 ?_ | refine Z9 ?_ | refine Za (fun hc => ?_) (fun hc => ?_) | refine Zb (fun hc => ?_) (fun hc => ?_) | refine Zd ?_
      | refine Ze ?_ | refine Zf ?_ | refine Zg ?_ | refine Zh ?_ | refine Zi ?_ | refine Zj ?_ | refine Zk ?_ | refine Zl ?_ | refine Zm ?_ | refine Zn (fun hc => ?_) (fun hc => ?_) | refine Zo ?_ | refine ok_seq ?_ | refine ok_reg ?_
      | refine Zp ?_ | refine Zq ?_ | refine Zr (fun hc => ?_) (fun hc => ?_) | refine ok_block ?_ | refine ok_exit ?_ | refine ok_skip ?_ | refine ok_ret ?_ | refine x_normal_then ?_ | refine x_exit_here ?_ | refine Zs ?_ | refine Zv ?_
      | refine x_ret_then ?_ | refine x_ret_block ?_ | refine x_normal_block ?_ | refine Zt ?_ | refine Zu ?_
    exact ret_vi (by rw [subI_over (by simp only [wL]; omega)])
  · have e1 : decide (left - (l.length : Int) < 0) = false := decide_eq_false hlt
    repeat' first
      | refine Z1 ?_ | refine Z2 ?_ | refine Z3 ?_ | refine Z4 ?_ | refine Z5 ?_ | refine Z6 ?_ | refine Z7 ?_ | refine Z8 ?_ | refine Z9 ?_ | refine Za (fun hc => ?_) (fun hc => ?_) | refine Zb (fun hc => ?_) (fun hc => ?_) | refine Zd ?_
      | refine Ze ?_ | refine Zf ?_ | refine Zg ?_ | refine Zh ?_ | refine Zi ?_ | refine Zj ?_ | refine Zk ?_ | refine Zl ?_ | refine Zm ?_ | refine Zn (fun hc => ?_) (fun hc => ?_) | refine Zo ?_ | refine ok_seq ?_ | refine ok_reg ?_
      | refine Zp ?_ | refine Zq ?_ | refine Zr (fun hc => ?_) (fun hc => ?_) | refine ok_block ?_ | refine ok_exit ?_ | refine ok_skip ?_ | refine ok_ret ?_ | refine x_normal_then ?_ | refine x_exit_here ?_ | refine Zs ?_ | refine Zv ?_
      | refine x_ret_then ?_ | refine x_ret_block ?_ | refine x_normal_block ?_ | refine Zt ?_ | refine Zu ?_
    refine ok_for (ι := Nat × Int) (fun x => envL [(0, .d (.im (l.map eCnd))), (1, vi x.2), (4, vi 0), (5, vi x.1)]) (fun x => stL []) (fun x => x.1 ≤ l.length ∧ 0 ≤ x.2 ∧ x.2 ≤ left ∧ subI x.2 ((l.drop x.1).map (wCnd)).sum = subI left (wL (wCnd) l)) (fun x => l.length - x.1) (0, left - l.length) (⟨Nat.zero_le _, by simp only; omega, by simp only; omega, by simp only [List.drop_zero]; rw [subI_add (by omega)]; rfl⟩) (weak_mk rfl ⟨.refl _, .refl _, .refl _, .refl _, trivial⟩ trivial) (fun _ => Nat.le_refl _) ?_
    rintro ⟨k, lf⟩ ⟨i1, i2, i3, i4⟩
    simp only at i1 i2 i3 i4
    rcases hx : l[k]? with _ | x
    · have hle := none_le hx
      have ek : decide ((k : Int) < (l.length : Int)) = false := decide_eq_false (by omega)
      rw [drop_none hx] at i4
      repeat' first
        | refine Z1 ?_ | refine Z2 ?_ | refine Z3 ?_ | refine Z4 ?_ | refine Z5 ?_ | refine Z6 ?_ | refine Z7 ?_ | refine Z8 ?_ | refine Z9 ?_ | refine Za (fun hc => ?_) (fun hc => ?_) | refine Zb (fun hc => ?_) (fun hc => ?_)
        | refine Zd ?_ | refine Ze ?_ | refine Zf ?_ | refine Zg ?_ | refine Zh ?_ | refine Zi ?_ | refine Zj ?_ | refine Zk ?_ | refine Zl ?_ | refine Zm ?_ | refine Zn (fun hc => ?_) (fun hc => ?_) | refine Zo ?_ | refine ok_seq ?_
        | refine ok_reg ?_ | refine Zp ?_ | refine Zq ?_ | refine Zr (fun hc => ?_) (fun hc => ?_) | refine ok_block ?_ | refine ok_exit ?_ | refine ok_skip ?_ | refine ok_ret ?_ | refine x_normal_then ?_ | refine x_exit_here ?_
        | refine Zs ?_ | refine Zv ?_ | refine x_ret_then ?_ | refine x_ret_block ?_ | refine x_normal_block ?_ | refine Zt ?_ | refine Zu ?_
      exact ret_vi (by rw [← i4]; simp [subI]; omega)
    · obtain ⟨hdr, hlt2⟩ := drop_some hx
      have ek : decide ((k : Int) < (l.length : Int)) = true := decide_eq_true (by omega)
      rw [hdr, List.map_cons, List.sum_cons] at i4
      have hdx := hd2 x (List.mem_of_getElem? hx)
      by_cases hn : subI lf (wCnd x) < 0
      · have en : decide (subI lf (wCnd x) < 0) = true := decide_eq_true hn
        obtain ⟨hn1, hn2⟩ := subI_neg hn
        repeat' first
          | refine Z1 ?_ | refine Z2 ?_ | refine Z3 ?_ | refine Z4 ?_ | refine Z5 ?_ | refine Z6 ?_ | refine Z7 ?_ | refine Z8 ?_ | refine Z9 ?_ | refine Za (fun hc => ?_) (fun hc => ?_) | refine Zb (fun hc => ?_) (fun hc => ?_)
          | refine Zc (szCond_ok x lf i2 (by omega) hdx) ?_ | refine Zd ?_ | refine Ze ?_ | refine Zf ?_ | refine Zg ?_ | refine Zh ?_ | refine Zi ?_ | refine Zj ?_ | refine Zk ?_ | refine Zl ?_ | refine Zm ?_
          | refine Zn (fun hc => ?_) (fun hc => ?_) | refine Zo ?_ | refine ok_seq ?_ | refine ok_reg ?_ | refine Zp ?_ | refine Zq ?_ | refine Zr (fun hc => ?_) (fun hc => ?_) | refine ok_block ?_ | refine ok_exit ?_ | refine ok_skip ?_
          | refine ok_ret ?_ | refine x_normal_then ?_ | refine x_exit_here ?_ | refine Zs ?_ | refine Zv ?_ | refine x_ret_then ?_ | refine x_ret_block ?_ | refine x_normal_block ?_ | refine Zt ?_ | refine Zu ?_
        exact ret_vi (by rw [← i4, subI_over (by omega)])
      · have en : decide (subI lf (wCnd x) < 0) = false := decide_eq_false hn
        obtain ⟨hn1, hn2⟩ := subI_pos hn i2
        repeat' first
          | refine Z1 ?_ | refine Z2 ?_ | refine Z3 ?_ | refine Z4 ?_ | refine Z5 ?_ | refine Z6 ?_ | refine Z7 ?_ | refine Z8 ?_ | refine Z9 ?_ | refine Za (fun hc => ?_) (fun hc => ?_) | refine Zb (fun hc => ?_) (fun hc => ?_)
          | refine Zc (szCond_ok x lf i2 (by omega) hdx) ?_ | refine Zd ?_ | refine Ze ?_ | refine Zf ?_ | refine Zg ?_ | refine Zh ?_ | refine Zi ?_ | refine Zj ?_ | refine Zk ?_ | refine Zl ?_ | refine Zm ?_
          | refine Zn (fun hc => ?_) (fun hc => ?_) | refine Zo ?_ | refine ok_seq ?_ | refine ok_reg ?_ | refine Zp ?_ | refine Zq ?_ | refine Zr (fun hc => ?_) (fun hc => ?_) | refine ok_block ?_ | refine ok_exit ?_ | refine ok_skip ?_
          | refine ok_ret ?_ | refine x_normal_then ?_ | refine x_exit_here ?_ | refine Zs ?_ | refine Zv ?_ | refine x_ret_then ?_ | refine x_ret_block ?_ | refine x_normal_block ?_ | refine Zt ?_ | refine Zu ?_
        exact ⟨(k + 1, subI lf (wCnd x)), ⟨by simp only; omega, by simp only; omega, by simp only; omega, by simp only; rw [hn2, subI_add hn1]; exact i4⟩, by (try simp only); omega, low_mk (Nat.zero_le _) ⟨⟨rfl, rfl⟩, ⟨rfl, rfl⟩, ⟨rfl, rfl⟩, ⟨rfl, rfl⟩, trivial⟩ trivial⟩

theorem szItemS_ok (l : List (Itm)) (left : Int) (h0 : 0 ≤ left) (h1 : left ≤ 1048576) (hd : dL (dItm) l) : PFun X 59 [.d (.im (l.map eItm)), vi left] (vi (subI left (wL (wItm) l))) := by
  obtain ⟨hd1, hd2⟩ := hd
  simp only [mx] at hd1
  refine pfun_of Tryd.func59 rfl (by decide) Tryd.ntmps59 Tryd.results59 (by simp) rfl rfl ?_
  by_cases hlt : left - (l.length : Int) < 0
  · have e1 : decide (left - (l.length : Int) < 0) = true := decide_eq_true hlt
    repeat' first
      | refine Z1 ?_ | refine Z2 ?_ | refine Z3 ?_ | refine Z4 ?_ | refine Z5 ?_ | refine Z6 ?_ | refine Z7 ?_ | refine Z8 ?_ | refine Z9 ?_ | refine Za (fun hc => ?_) (fun hc => ?_) | refine Zb (fun hc => ?_) (fun hc => ?_) | refine Zd ?_
      | refine Ze ?_ | refine Zf ?_ | refine Zg ?_ | refine Zh ?_ | refine Zi ?_ | refine Zj ?_ | refine Zk ?_ | refine Zl ?_ | refine Zm ?_ | refine Zn (fun hc => ?_) (fun hc => ?_) | refine Zo ?_ | refine ok_seq ?_ | refine ok_reg ?_
      | refine Zp ?_ | refine Zq ?_ | refine Zr (fun hc => ?_) (fun hc => ?_) | refine ok_block ?_ | refine ok_exit ?_ | refine ok_skip ?_ | refine ok_ret ?_ | refine x_normal_then ?_ | refine x_exit_here ?_ | refine Zs ?_ | refine Zv ?_
      | refine x_ret_then ?_ | refine x_ret_block ?_ | refine x_normal_block ?_ | refine Zt ?_ | refine Zu ?_
    exact ret_vi (by rw [subI_over (by simp only [wL]; omega)])
  · have e1 : decide (left - (l.length : Int) < 0) = false := decide_eq_false hlt
    repeat' first
      | refine Z1 ?_ | refine Z2 ?_ | refine Z3 ?_ | refine Z4 ?_ | refine Z5 ?_ | refine Z6 ?_ | refine Z7 ?_ | refine Z8 ?_ | refine Z9 ?_ | refine Za (fun hc => ?_) (fun hc => ?_) | refine Zb (fun hc => ?_) (fun hc => ?_) | refine Zd ?_
      | refine Ze ?_ | refine Zf ?_ | refine Zg ?_ | refine Zh ?_ | refine Zi ?_ | refine Zj ?_ | refine Zk ?_ | refine Zl ?_ | refine Zm ?_ | refine Zn (fun hc => ?_) (fun hc => ?_) | refine Zo ?_ | refine ok_seq ?_ | refine ok_reg ?_
      | refine Zp ?_ | refine Zq ?_ | refine Zr (fun hc => ?_) (fun hc => ?_) | refine ok_block ?_ | refine ok_exit ?_ | refine ok_skip ?_ | refine ok_ret ?_ | refine x_normal_then ?_ | refine x_exit_here ?_ | refine Zs ?_ | refine Zv ?_
      | refine x_ret_then ?_ | refine x_ret_block ?_ | refine x_normal_block ?_ | refine Zt ?_ | refine Zu ?_
    refine ok_for (ι := Nat × Int) (fun x => envL [(0, .d (.im (l.map eItm))), (1, vi x.2), (4, vi 0), (5, vi x.1)]) (fun x => stL []) (fun x => x.1 ≤ l.length ∧ 0 ≤ x.2 ∧ x.2 ≤ left ∧ subI x.2 ((l.drop x.1).map (wItm)).sum = subI left (wL (wItm) l)) (fun x => l.length - x.1) (0, left - l.length) (⟨Nat.zero_le _, by simp only; omega, by simp only; omega, by simp only [List.drop_zero]; rw [subI_add (by omega)]; rfl⟩) (weak_mk rfl ⟨.refl _, .refl _, .refl _, .refl _, trivial⟩ trivial) (fun _ => Nat.le_refl _) ?_
    rintro ⟨k, lf⟩ ⟨i1, i2, i3, i4⟩
    simp only at i1 i2 i3 i4
    rcases hx : l[k]? with _ | x
    · have hle := none_le hx
      have ek : decide ((k : Int) < (l.length : Int)) = false := decide_eq_false (by omega)
      rw [drop_none hx] at i4
      repeat' first
        | refine Z1 ?_ | refine Z2 ?_ | refine Z3 ?_ | refine Z4 ?_ | refine Z5 ?_ | refine Z6 ?_ | refine Z7 ?_ | refine Z8 ?_ | refine Z9 ?_ | refine Za (fun hc => ?_) (fun hc => ?_) | refine Zb (fun hc => ?_) (fun hc => ?_)
        | refine Zd ?_ | refine Ze ?_ | refine Zf ?_ | refine Zg ?_ | refine Zh ?_ | refine Zi ?_ | refine Zj ?_ | refine Zk ?_ | refine Zl ?_ | refine Zm ?_ | refine Zn (fun hc => ?_) (fun hc => ?_) | refine Zo ?_ | refine ok_seq ?_
        | refine ok_reg ?_ | refine Zp ?_ | refine Zq ?_ | refine Zr (fun hc => ?_) (fun hc => ?_) | refine ok_block ?_ | refine ok_exit ?_ | refine ok_skip ?_ | refine ok_ret ?_ | refine x_normal_then ?_ | refine x_exit_here ?_
        | refine Zs ?_ | refine Zv ?_ | refine x_ret_then ?_ | refine x_ret_block ?_ | refine x_normal_block ?_ | refine Zt ?_ | refine Zu ?_
      exact ret_vi (by rw [← i4]; simp [subI]; omega)
    · obtain ⟨hdr, hlt2⟩ := drop_some hx
      have ek : decide ((k : Int) < (l.length : Int)) = true := decide_eq_true (by omega)
      rw [hdr, List.map_cons, List.sum_cons] at i4
      have hdx := hd2 x (List.mem_of_getElem? hx)
      by_cases hn : subI lf (wItm x) < 0
      · have en : decide (subI lf (wItm x) < 0) = true := decide_eq_true hn
        obtain ⟨hn1, hn2⟩ := subI_neg hn
        repeat' first
          | refine Z1 ?_ | refine Z2 ?_ | refine Z3 ?_ | refine Z4 ?_ | refine Z5 ?_ | refine Z6 ?_ | refine Z7 ?_ | refine Z8 ?_ | refine Z9 ?_ | refine Za (fun hc => ?_) (fun hc => ?_) | refine Zb (fun hc => ?_) (fun hc => ?_)
          | refine Zc (szItem_ok x lf i2 (by omega) hdx) ?_ | refine Zd ?_ | refine Ze ?_ | refine Zf ?_ | refine Zg ?_ | refine Zh ?_ | refine Zi ?_ | refine Zj ?_ | refine Zk ?_ | refine Zl ?_ | refine Zm ?_
          | refine Zn (fun hc => ?_) (fun hc => ?_) | refine Zo ?_ | refine ok_seq ?_ | refine ok_reg ?_ | refine Zp ?_ | refine Zq ?_ | refine Zr (fun hc => ?_) (fun hc => ?_) | refine ok_block ?_ | refine ok_exit ?_ | refine ok_skip ?_
          | refine ok_ret ?_ | refine x_normal_then ?_ | refine x_exit_here ?_ | refine Zs ?_ | refine Zv ?_ | refine x_ret_then ?_ | refine x_ret_block ?_ | refine x_normal_block ?_ | refine Zt ?_ | refine Zu ?_
        exact ret_vi (by rw [← i4, subI_over (by omega)])
      · have en : decide (subI lf (wItm x) < 0) = false := decide_eq_false hn
        obtain ⟨hn1, hn2⟩ := subI_pos hn i2
        repeat' first
          | refine Z1 ?_ | refine Z2 ?_ | refine Z3 ?_ | refine Z4 ?_ | refine Z5 ?_ | refine Z6 ?_ | refine Z7 ?_ | refine Z8 ?_ | refine Z9 ?_ | refine Za (fun hc => ?_) (fun hc => ?_) | refine Zb (fun hc => ?_) (fun hc => ?_)
          | refine Zc (szItem_ok x lf i2 (by omega) hdx) ?_ | refine Zd ?_ | refine Ze ?_ | refine Zf ?_ | refine Zg ?_ | refine Zh ?_ | refine Zi ?_ | refine Zj ?_ | refine Zk ?_ | refine Zl ?_ | refine Zm ?_
          | refine Zn (fun hc => ?_) (fun hc => ?_) | refine Zo ?_ | refine ok_seq ?_ | refine ok_reg ?_ | refine Zp ?_ | refine Zq ?_ | refine Zr (fun hc => ?_) (fun hc => ?_) | refine ok_block ?_ | refine ok_exit ?_ | refine ok_skip ?_
          | refine ok_ret ?_ | refine x_normal_then ?_ | refine x_exit_here ?_ | refine Zs ?_ | refine Zv ?_ | refine x_ret_then ?_ | refine x_ret_block ?_ | refine x_normal_block ?_ | refine Zt ?_ | refine Zu ?_
        exact ⟨(k + 1, subI lf (wItm x)), ⟨by simp only; omega, by simp only; omega, by simp only; omega, by simp only; rw [hn2, subI_add hn1]; exact i4⟩, by (try simp only); omega, low_mk (Nat.zero_le _) ⟨⟨rfl, rfl⟩, ⟨rfl, rfl⟩, ⟨rfl, rfl⟩, ⟨rfl, rfl⟩, trivial⟩ trivial⟩

theorem szItemSS_ok (l : List (List Itm)) (left : Int) (h0 : 0 ≤ left) (h1 : left ≤ 1048576) (hd : dL (dL dItm) l) : PFun X 60 [.d (.im (l.map eItms)), vi left] (vi (subI left (wL (wL wItm) l))) := by
  obtain ⟨hd1, hd2⟩ := hd
  simp only [mx] at hd1
  refine pfun_of Tryd.func60 rfl (by decide) Tryd.ntmps60 Tryd.results60 (by simp) rfl rfl ?_
  by_cases hlt : left - (l.length : Int) < 0
  · have e1 : decide (left - (l.length : Int) < 0) = true := decide_eq_true hlt
    repeat' first
      | refine Z1 ?_ | refine Z2 ?_ | refine Z3 ?_ | refine Z4 ?_ | refine Z5 ?_ | refine Z6 ?_ | refine Z7 ?_ | refine Z8 ?_ | refine Z9 ?_ | refine Za (fun hc => ?_) (fun hc => ?_) | refine Zb (fun hc => ?_) (fun hc => ?_) | refine Zd ?_
      | refine Ze ?_ | refine Zf ?_ | refine Zg ?_ | refine Zh ?_ | refine Zi ?_ | refine Zj ?_ | refine Zk ?_ | refine Zl ?_ | refine Zm ?_ | refine Zn (fun hc => ?_) (fun hc => ?_) | refine Zo ?_ | refine ok_seq ?_ | refine ok_reg ?_
      | refine Zp ?_ | refine Zq ?_ | refine Zr (fun hc => ?_) (fun hc => ?_) | refine ok_block ?_ | refine ok_exit ?_ | refine ok_skip ?_ | refine ok_ret ?_ | refine x_normal_then ?_ | refine x_exit_here ?_ | refine Zs ?_ | refine Zv ?_
      | refine x_ret_then ?_ | refine x_ret_block ?_ | refine x_normal_block ?_ | refine Zt ?_ | refine Zu ?_
    exact ret_vi (by rw [subI_over (by simp only [wL]; omega)])
  · have e1 : decide (left - (l.length : Int) < 0) = false := decide_eq_false hlt
    repeat' first
      | refine Z1 ?_ | refine Z2 ?_ | refine Z3 ?_ | refine Z4 ?_ | refine Z5 ?_ | refine Z6 ?_ | refine Z7 ?_ | refine Z8 ?_ | refine Z9 ?_ | refine Za (fun hc => ?_) (fun hc => ?_) | refine Zb (fun hc => ?_) (fun hc => ?_) | refine Zd ?_
      | refine Ze ?_ | refine Zf ?_ | refine Zg ?_ | refine Zh ?_ | refine Zi ?_ | refine Zj ?_ | refine Zk ?_ | refine Zl ?_ | refine Zm ?_ | refine Zn (fun hc => ?_) (fun hc => ?_) | refine Zo ?_ | refine ok_seq ?_ | refine ok_reg ?_
      | refine Zp ?_ | refine Zq ?_ | refine Zr (fun hc => ?_) (fun hc => ?_) | refine ok_block ?_ | refine ok_exit ?_ | refine ok_skip ?_ | refine ok_ret ?_ | refine x_normal_then ?_ | refine x_exit_here ?_ | refine Zs ?_ | refine Zv ?_
      | refine x_ret_then ?_ | refine x_ret_block ?_ | refine x_normal_block ?_ | refine Zt ?_ | refine Zu ?_
    refine ok_for (ι := Nat × Int) (fun x => envL [(0, .d (.im (l.map eItms))), (1, vi x.2), (4, vi 0), (5, vi x.1)]) (fun x => stL []) (fun x => x.1 ≤ l.length ∧ 0 ≤ x.2 ∧ x.2 ≤ left ∧ subI x.2 ((l.drop x.1).map (wL wItm)).sum = subI left (wL (wL wItm) l)) (fun x => l.length - x.1) (0, left - l.length) (⟨Nat.zero_le _, by simp only; omega, by simp only; omega, by simp only [List.drop_zero]; rw [subI_add (by omega)]; rfl⟩) (weak_mk rfl ⟨.refl _, .refl _, .refl _, .refl _, trivial⟩ trivial) (fun _ => Nat.le_refl _) ?_
    rintro ⟨k, lf⟩ ⟨i1, i2, i3, i4⟩
    simp only at i1 i2 i3 i4
    rcases hx : l[k]? with _ | x
    · have hle := none_le hx
      have ek : decide ((k : Int) < (l.length : Int)) = false := decide_eq_false (by omega)
      rw [drop_none hx] at i4
      repeat' first
        | refine Z1 ?_ | refine Z2 ?_ | refine Z3 ?_ | refine Z4 ?_ | refine Z5 ?_ | refine Z6 ?_ | refine Z7 ?_ | refine Z8 ?_ | refine Z9 ?_ | refine Za (fun hc => ?_) (fun hc => ?_) | refine Zb (fun hc => ?_) (fun hc => ?_)
        | refine Zd ?_ | refine Ze ?_ | refine Zf ?_ | refine Zg ?_ | refine Zh ?_ | refine Zi ?_ | refine Zj ?_ | refine Zk ?_ | refine Zl ?_ | refine Zm ?_ | refine Zn (fun hc => ?_) (fun hc => ?_) | refine Zo ?_ | refine ok_seq ?_
        | refine ok_reg ?_ | refine Zp ?_ | refine Zq ?_ | refine Zr (fun hc => ?_) (fun hc => ?_) | refine ok_block ?_ | refine ok_exit ?_ | refine ok_skip ?_ | refine ok_ret ?_ | refine x_normal_then ?_ | refine x_exit_here ?_
        | refine Zs ?_ | refine Zv ?_ | refine x_ret_then ?_ | refine x_ret_block ?_ | refine x_normal_block ?_ | refine Zt ?_ | refine Zu ?_
      exact ret_vi (by rw [← i4]; simp [subI]; omega)
    · obtain ⟨hdr, hlt2⟩ := drop_some hx
      have ek : decide ((k : Int) < (l.length : Int)) = true := decide_eq_true (by omega)
      rw [hdr, List.map_cons, List.sum_cons] at i4
      have hdx := hd2 x (List.mem_of_getElem? hx)
      by_cases hn : subI lf (wL wItm x) < 0
      · have en : decide (subI lf (wL wItm x) < 0) = true := decide_eq_true hn
        obtain ⟨hn1, hn2⟩ := subI_neg hn
        repeat' first
          | refine Z1 ?_ | refine Z2 ?_ | refine Z3 ?_ | refine Z4 ?_ | refine Z5 ?_ | refine Z6 ?_ | refine Z7 ?_ | refine Z8 ?_ | refine Z9 ?_ | refine Za (fun hc => ?_) (fun hc => ?_) | refine Zb (fun hc => ?_) (fun hc => ?_)
          | refine Zc (szItemS_ok x lf i2 (by omega) hdx) ?_ | refine Zd ?_ | refine Ze ?_ | refine Zf ?_ | refine Zg ?_ | refine Zh ?_ | refine Zi ?_ | refine Zj ?_ | refine Zk ?_ | refine Zl ?_ | refine Zm ?_
          | refine Zn (fun hc => ?_) (fun hc => ?_) | refine Zo ?_ | refine ok_seq ?_ | refine ok_reg ?_ | refine Zp ?_ | refine Zq ?_ | refine Zr (fun hc => ?_) (fun hc => ?_) | refine ok_block ?_ | refine ok_exit ?_ | refine ok_skip ?_
          | refine ok_ret ?_ | refine x_normal_then ?_ | refine x_exit_here ?_ | refine Zs ?_ | refine Zv ?_ | refine x_ret_then ?_ | refine x_ret_block ?_ | refine x_normal_block ?_ | refine Zt ?_ | refine Zu ?_
        exact ret_vi (by rw [← i4, subI_over (by omega)])
      · have en : decide (subI lf (wL wItm x) < 0) = false := decide_eq_false hn
        obtain ⟨hn1, hn2⟩ := subI_pos hn i2
        repeat' first
          | refine Z1 ?_ | refine Z2 ?_ | refine Z3 ?_ | refine Z4 ?_ | refine Z5 ?_ | refine Z6 ?_ | refine Z7 ?_ | refine Z8 ?_ | refine Z9 ?_ | refine Za (fun hc => ?_) (fun hc => ?_) | refine Zb (fun hc => ?_) (fun hc => ?_)
          | refine Zc (szItemS_ok x lf i2 (by omega) hdx) ?_ | refine Zd ?_ | refine Ze ?_ | refine Zf ?_ | refine Zg ?_ | refine Zh ?_ | refine Zi ?_ | refine Zj ?_ | refine Zk ?_ | refine Zl ?_ | refine Zm ?_
          | refine Zn (fun hc => ?_) (fun hc => ?_) | refine Zo ?_ | refine ok_seq ?_ | refine ok_reg ?_ | refine Zp ?_ | refine Zq ?_ | refine Zr (fun hc => ?_) (fun hc => ?_) | refine ok_block ?_ | refine ok_exit ?_ | refine ok_skip ?_
          | refine ok_ret ?_ | refine x_normal_then ?_ | refine x_exit_here ?_ | refine Zs ?_ | refine Zv ?_ | refine x_ret_then ?_ | refine x_ret_block ?_ | refine x_normal_block ?_ | refine Zt ?_ | refine Zu ?_
        exact ⟨(k + 1, subI lf (wL wItm x)), ⟨by simp only; omega, by simp only; omega, by simp only; omega, by simp only; rw [hn2, subI_add hn1]; exact i4⟩, by (try simp only); omega, low_mk (Nat.zero_le _) ⟨⟨rfl, rfl⟩, ⟨rfl, rfl⟩, ⟨rfl, rfl⟩, ⟨rfl, rfl⟩, trivial⟩ trivial⟩

theorem szStringS_ok (l : List (ByteArray)) (left : Int) (h0 : 0 ≤ left) (h1 : left ≤ 1048576) (hd : dL (dStr) l) : PFun X 58 [.d (.im (l.map eStr)), vi left] (vi (subI left (wL (wStr) l))) := by
  obtain ⟨hd1, hd2⟩ := hd
  simp only [mx] at hd1
  refine pfun_of Tryd.func58 rfl (by decide) Tryd.ntmps58 Tryd.results58 (by simp) rfl rfl ?_
  by_cases hlt : left - (l.length : Int) < 0
  · have e1 : decide (left - (l.length : Int) < 0) = true := decide_eq_true hlt
    repeat' first
      | refine Z1 ?_ | refine Z2 ?_ | refine Z3 ?_ | refine Z4 ?_ | refine Z5 ?_ | refine Z6 ?_ | refine Z7 ?_ | refine Z8 ?_ | refine Z9 ?_ | refine Za (fun hc => ?_) (fun hc => ?_) | refine Zb (fun hc => ?_) (fun hc => ?_) | refine Zd ?_
      | refine Ze ?_ | refine Zf ?_ | refine Zg ?_ | refine Zh ?_ | refine Zi ?_ | refine Zj ?_ | refine Zk ?_ | refine Zl ?_ | refine Zm ?_ | refine Zn (fun hc => ?_) (fun hc => ?_) | refine Zo ?_ | refine ok_seq ?_ | refine ok_reg ?_
      | refine Zp ?_ | refine Zq ?_ | refine Zr (fun hc => ?_) (fun hc => ?_) | refine ok_block ?_ | refine ok_exit ?_ | refine ok_skip ?_ | refine ok_ret ?_ | refine x_normal_then ?_ | refine x_exit_here ?_ | refine Zs ?_ | refine Zv ?_
      | refine x_ret_then ?_ | refine x_ret_block ?_ | refine x_normal_block ?_ | refine Zt ?_ | refine Zu ?_
    exact ret_vi (by rw [subI_over (by simp only [wL]; omega)])
  · have e1 : decide (left - (l.length : Int) < 0) = false := decide_eq_false hlt
    repeat' first
      | refine Z1 ?_ | refine Z2 ?_ | refine Z3 ?_ | refine Z4 ?_ | refine Z5 ?_ | refine Z6 ?_ | refine Z7 ?_ | refine Z8 ?_ | refine Z9 ?_ | refine Za (fun hc => ?_) (fun hc => ?_) | refine Zb (fun hc => ?_) (fun hc => ?_) | refine Zd ?_
      | refine Ze ?_ | refine Zf ?_ | refine Zg ?_ | refine Zh ?_ | refine Zi ?_ | refine Zj ?_ | refine Zk ?_ | refine Zl ?_ | refine Zm ?_ | refine Zn (fun hc => ?_) (fun hc => ?_) | refine Zo ?_ | refine ok_seq ?_ | refine ok_reg ?_
      | refine Zp ?_ | refine Zq ?_ | refine Zr (fun hc => ?_) (fun hc => ?_) | refine ok_block ?_ | refine ok_exit ?_ | refine ok_skip ?_ | refine ok_ret ?_ | refine x_normal_then ?_ | refine x_exit_here ?_ | refine Zs ?_ | refine Zv ?_
      | refine x_ret_then ?_ | refine x_ret_block ?_ | refine x_normal_block ?_ | refine Zt ?_ | refine Zu ?_
    refine ok_for (ι := Nat × Int) (fun x => envL [(0, .d (.im (l.map eStr))), (1, vi x.2), (4, vi 0), (5, vi x.1)]) (fun x => stL []) (fun x => x.1 ≤ l.length ∧ 0 ≤ x.2 ∧ x.2 ≤ left ∧ subI x.2 ((l.drop x.1).map (wStr)).sum = subI left (wL (wStr) l)) (fun x => l.length - x.1) (0, left - l.length) (⟨Nat.zero_le _, by simp only; omega, by simp only; omega, by simp only [List.drop_zero]; rw [subI_add (by omega)]; rfl⟩) (weak_mk rfl ⟨.refl _, .refl _, .refl _, .refl _, trivial⟩ trivial) (fun _ => Nat.le_refl _) ?_
    rintro ⟨k, lf⟩ ⟨i1, i2, i3, i4⟩
    simp only at i1 i2 i3 i4
    rcases hx : l[k]? with _ | x
    · have hle := none_le hx
      have ek : decide ((k : Int) < (l.length : Int)) = false := decide_eq_false (by omega)
      rw [drop_none hx] at i4
      repeat' first
        | refine Z1 ?_ | refine Z2 ?_ | refine Z3 ?_ | refine Z4 ?_ | refine Z5 ?_ | refine Z6 ?_ | refine Z7 ?_ | refine Z8 ?_ | refine Z9 ?_ | refine Za (fun hc => ?_) (fun hc => ?_) | refine Zb (fun hc => ?_) (fun hc => ?_)
        | refine Zd ?_ | refine Ze ?_ | refine Zf ?_ | refine Zg ?_ | refine Zh ?_ | refine Zi ?_ | refine Zj ?_ | refine Zk ?_ | refine Zl ?_ | refine Zm ?_ | refine Zn (fun hc => ?_) (fun hc => ?_) | refine Zo ?_ | refine ok_seq ?_
        | refine ok_reg ?_ | refine Zp ?_ | refine Zq ?_ | refine Zr (fun hc => ?_) (fun hc => ?_) | refine ok_block ?_ | refine ok_exit ?_ | refine ok_skip ?_ | refine ok_ret ?_ | refine x_normal_then ?_ | refine x_exit_here ?_
        | refine Zs ?_ | refine Zv ?_ | refine x_ret_then ?_ | refine x_ret_block ?_ | refine x_normal_block ?_ | refine Zt ?_ | refine Zu ?_
      exact ret_vi (by rw [← i4]; simp [subI]; omega)
    · obtain ⟨hdr, hlt2⟩ := drop_some hx
      have ek : decide ((k : Int) < (l.length : Int)) = true := decide_eq_true (by omega)
      rw [hdr, List.map_cons, List.sum_cons] at i4
      have hdx := hd2 x (List.mem_of_getElem? hx)
      simp only [dStr, mx] at hdx
      simp only [wStr] at i4
      by_cases hn : lf - (x.size : Int) < 0
      · have en : decide (lf - (x.size : Int) < 0) = true := decide_eq_true hn
        have hn1 : lf < (x.size : Int) := by omega
        repeat' first
          | refine Z1 ?_ | refine Z2 ?_ | refine Z3 ?_ | refine Z4 ?_ | refine Z5 ?_ | refine Z6 ?_ | refine Z7 ?_ | refine Z8 ?_ | refine Z9 ?_ | refine Za (fun hc => ?_) (fun hc => ?_) | refine Zb (fun hc => ?_) (fun hc => ?_)
          | refine Zd ?_ | refine Ze ?_ | refine Zf ?_ | refine Zg ?_ | refine Zh ?_ | refine Zi ?_ | refine Zj ?_ | refine Zk ?_ | refine Zl ?_ | refine Zm ?_ | refine Zn (fun hc => ?_) (fun hc => ?_) | refine Zo ?_ | refine ok_seq ?_
          | refine ok_reg ?_ | refine Zp ?_ | refine Zq ?_ | refine Zr (fun hc => ?_) (fun hc => ?_) | refine ok_block ?_ | refine ok_exit ?_ | refine ok_skip ?_ | refine ok_ret ?_ | refine x_normal_then ?_ | refine x_exit_here ?_
          | refine Zs ?_ | refine Zv ?_ | refine x_ret_then ?_ | refine x_ret_block ?_ | refine x_normal_block ?_ | refine Zt ?_ | refine Zu ?_
        exact ret_vi (by rw [← i4, subI_over (by omega)])
      · have en : decide (lf - (x.size : Int) < 0) = false := decide_eq_false hn
        have hn1 : (x.size : Int) ≤ lf := by omega
        repeat' first
          | refine Z1 ?_ | refine Z2 ?_ | refine Z3 ?_ | refine Z4 ?_ | refine Z5 ?_ | refine Z6 ?_ | refine Z7 ?_ | refine Z8 ?_ | refine Z9 ?_ | refine Za (fun hc => ?_) (fun hc => ?_) | refine Zb (fun hc => ?_) (fun hc => ?_)
          | refine Zd ?_ | refine Ze ?_ | refine Zf ?_ | refine Zg ?_ | refine Zh ?_ | refine Zi ?_ | refine Zj ?_ | refine Zk ?_ | refine Zl ?_ | refine Zm ?_ | refine Zn (fun hc => ?_) (fun hc => ?_) | refine Zo ?_ | refine ok_seq ?_
          | refine ok_reg ?_ | refine Zp ?_ | refine Zq ?_ | refine Zr (fun hc => ?_) (fun hc => ?_) | refine ok_block ?_ | refine ok_exit ?_ | refine ok_skip ?_ | refine ok_ret ?_ | refine x_normal_then ?_ | refine x_exit_here ?_
          | refine Zs ?_ | refine Zv ?_ | refine x_ret_then ?_ | refine x_ret_block ?_ | refine x_normal_block ?_ | refine Zt ?_ | refine Zu ?_
        exact ⟨(k + 1, lf - (x.size : Int)), ⟨by simp only; omega, by simp only; omega, by simp only; omega, by simp only; rw [subI_add hn1]; exact i4⟩, by (try simp only); omega, low_mk (Nat.zero_le _) ⟨⟨rfl, rfl⟩, ⟨rfl, rfl⟩, ⟨rfl, rfl⟩, ⟨rfl, rfl⟩, trivial⟩ trivial⟩

theorem szVar_ok (x : Vr) (left : Int) (h0 : 0 ≤ left) (h1 : left ≤ 1048576) (hd : dVr x) : PFun X 50 [.agg ((eVr x).map .d), vi left] (vi (subI left (wVr x))) := by
  obtain ⟨hd0, hd1⟩ := hd
  have hd0 : x.name.size ≤ 9223372036854775807 := hd0
  refine pfun_of Tryd.func50 rfl (by decide) Tryd.ntmps50 Tryd.results50 (by simp) rfl rfl ?_
  by_cases hn0 : left - (x.name.size : Int) < 0
  · have en0 : decide (left - (x.name.size : Int) < 0) = true := decide_eq_true hn0
    repeat' first
      | refine Z1 ?_ | refine Z2 ?_ | refine Z3 ?_ | refine Z4 ?_ | refine Z5 ?_ | refine Z6 ?_ | refine Z7 ?_ | refine Z8 ?_ | refine Z9 ?_ | refine Za (fun hc => ?_) (fun hc => ?_) | refine Zb (fun hc => ?_) (fun hc => ?_) | refine Zd ?_
      | refine Ze ?_ | refine Zf ?_ | refine Zg ?_ | refine Zh ?_ | refine Zi ?_ | refine Zj ?_ | refine Zk ?_ | refine Zl ?_ | refine Zm ?_ | refine Zn (fun hc => ?_) (fun hc => ?_) | refine Zo ?_ | refine ok_seq ?_ | refine ok_reg ?_
      | refine Zp ?_ | refine Zq ?_ | refine Zr (fun hc => ?_) (fun hc => ?_) | refine ok_block ?_ | refine ok_exit ?_ | refine ok_skip ?_ | refine ok_ret ?_ | refine x_normal_then ?_ | refine x_exit_here ?_ | refine Zs ?_ | refine Zv ?_
      | refine x_ret_then ?_ | refine x_ret_block ?_ | refine x_normal_block ?_ | refine Zt ?_ | refine Zu ?_
    exact ret_vi (by rw [subI_over (by simp only [wVr]; omega)])
  have en0 : decide (left - (x.name.size : Int) < 0) = false := decide_eq_false hn0
  by_cases hn1 : subI (left - (x.name.size : Int)) (wL wCnd x.clock) < 0
  · have en1 : decide (subI (left - (x.name.size : Int)) (wL wCnd x.clock) < 0) = true := decide_eq_true hn1
    obtain ⟨ha1, hb1⟩ := subI_neg hn1
    repeat' first
      | refine Z1 ?_ | refine Z2 ?_ | refine Z3 ?_ | refine Z4 ?_ | refine Z5 ?_ | refine Z6 ?_ | refine Z7 ?_ | refine Z8 ?_ | refine Z9 ?_ | refine Za (fun hc => ?_) (fun hc => ?_) | refine Zb (fun hc => ?_) (fun hc => ?_)
      | refine Zc (szCondS_ok x.clock (left - (x.name.size : Int)) (by omega) (by omega) hd1) ?_ | refine Zd ?_ | refine Ze ?_ | refine Zf ?_ | refine Zg ?_ | refine Zh ?_ | refine Zi ?_ | refine Zj ?_ | refine Zk ?_ | refine Zl ?_
      | refine Zm ?_ | refine Zn (fun hc => ?_) (fun hc => ?_) | refine Zo ?_ | refine ok_seq ?_ | refine ok_reg ?_ | refine Zp ?_ | refine Zq ?_ | refine Zr (fun hc => ?_) (fun hc => ?_) | refine ok_block ?_ | refine ok_exit ?_
      | refine ok_skip ?_ | refine ok_ret ?_ | refine x_normal_then ?_ | refine x_exit_here ?_ | refine Zs ?_ | refine Zv ?_ | refine x_ret_then ?_ | refine x_ret_block ?_ | refine x_normal_block ?_ | refine Zt ?_ | refine Zu ?_
    exact ret_vi (by rw [subI_over (by simp only [wVr]; omega)])
  have en1 : decide (subI (left - (x.name.size : Int)) (wL wCnd x.clock) < 0) = false := decide_eq_false hn1
  obtain ⟨ha1, hb1⟩ := subI_pos hn1 (by omega)
  repeat' first
    | refine Z1 ?_ | refine Z2 ?_ | refine Z3 ?_ | refine Z4 ?_ | refine Z5 ?_ | refine Z6 ?_ | refine Z7 ?_ | refine Z8 ?_ | refine Z9 ?_ | refine Za (fun hc => ?_) (fun hc => ?_) | refine Zb (fun hc => ?_) (fun hc => ?_)
    | refine Zc (szCondS_ok x.clock (left - (x.name.size : Int)) (by omega) (by omega) hd1) ?_ | refine Zd ?_ | refine Ze ?_ | refine Zf ?_ | refine Zg ?_ | refine Zh ?_ | refine Zi ?_ | refine Zj ?_ | refine Zk ?_ | refine Zl ?_
    | refine Zm ?_ | refine Zn (fun hc => ?_) (fun hc => ?_) | refine Zo ?_ | refine ok_seq ?_ | refine ok_reg ?_ | refine Zp ?_ | refine Zq ?_ | refine Zr (fun hc => ?_) (fun hc => ?_) | refine ok_block ?_ | refine ok_exit ?_
    | refine ok_skip ?_ | refine ok_ret ?_ | refine x_normal_then ?_ | refine x_exit_here ?_ | refine Zs ?_ | refine Zv ?_ | refine x_ret_then ?_ | refine x_ret_block ?_ | refine x_normal_block ?_ | refine Zt ?_ | refine Zu ?_
  exact ret_vi (by rw [subI_in (left := left) (n := wVr x) (by simp only [wVr]; omega)]; (simp only [wVr] <;> omega))

theorem szVarS_ok (l : List (Vr)) (left : Int) (h0 : 0 ≤ left) (h1 : left ≤ 1048576) (hd : dL (dVr) l) : PFun X 36 [.d (.im (l.map eVr)), vi left] (vi (subI left (wL (wVr) l))) := by
  obtain ⟨hd1, hd2⟩ := hd
  simp only [mx] at hd1
  refine pfun_of Tryd.func36 rfl (by decide) Tryd.ntmps36 Tryd.results36 (by simp) rfl rfl ?_
  by_cases hlt : left - (l.length : Int) < 0
  · have e1 : decide (left - (l.length : Int) < 0) = true := decide_eq_true hlt
    repeat' first
      | refine Z1 ?_ | refine Z2 ?_ | refine Z3 ?_ | refine Z4 ?_ | refine Z5 ?_ | refine Z6 ?_ | refine Z7 ?_ | refine Z8 ?_ | refine Z9 ?_ | refine Za (fun hc => ?_) (fun hc => ?_) | refine Zb (fun hc => ?_) (fun hc => ?_) | refine Zd ?_
      | refine Ze ?_ | refine Zf ?_ | refine Zg ?_ | refine Zh ?_ | refine Zi ?_ | refine Zj ?_ | refine Zk ?_ | refine Zl ?_ | refine Zm ?_ | refine Zn (fun hc => ?_) (fun hc => ?_) | refine Zo ?_ | refine ok_seq ?_ | refine ok_reg ?_
      | refine Zp ?_ | refine Zq ?_ | refine Zr (fun hc => ?_) (fun hc => ?_) | refine ok_block ?_ | refine ok_exit ?_ | refine ok_skip ?_ | refine ok_ret ?_ | refine x_normal_then ?_ | refine x_exit_here ?_ | refine Zs ?_ | refine Zv ?_
      | refine x_ret_then ?_ | refine x_ret_block ?_ | refine x_normal_block ?_ | refine Zt ?_ | refine Zu ?_
    exact ret_vi (by rw [subI_over (by simp only [wL]; omega)])
  · have e1 : decide (left - (l.length : Int) < 0) = false := decide_eq_false hlt
    repeat' first
      | refine Z1 ?_ | refine Z2 ?_ | refine Z3 ?_ | refine Z4 ?_ | refine Z5 ?_ | refine Z6 ?_ | refine Z7 ?_ | refine Z8 ?_ | refine Z9 ?_ | refine Za (fun hc => ?_) (fun hc => ?_) | refine Zb (fun hc => ?_) (fun hc => ?_) | refine Zd ?_
      | refine Ze ?_ | refine Zf ?_ | refine Zg ?_ | refine Zh ?_ | refine Zi ?_ | refine Zj ?_ | refine Zk ?_ | refine Zl ?_ | refine Zm ?_ | refine Zn (fun hc => ?_) (fun hc => ?_) | refine Zo ?_ | refine ok_seq ?_ | refine ok_reg ?_
      | refine Zp ?_ | refine Zq ?_ | refine Zr (fun hc => ?_) (fun hc => ?_) | refine ok_block ?_ | refine ok_exit ?_ | refine ok_skip ?_ | refine ok_ret ?_ | refine x_normal_then ?_ | refine x_exit_here ?_ | refine Zs ?_ | refine Zv ?_
      | refine x_ret_then ?_ | refine x_ret_block ?_ | refine x_normal_block ?_ | refine Zt ?_ | refine Zu ?_
    refine ok_for (ι := Nat × Int) (fun x => envL [(0, .d (.im (l.map eVr))), (1, vi x.2), (4, vi 0), (5, vi x.1)]) (fun x => stL []) (fun x => x.1 ≤ l.length ∧ 0 ≤ x.2 ∧ x.2 ≤ left ∧ subI x.2 ((l.drop x.1).map (wVr)).sum = subI left (wL (wVr) l)) (fun x => l.length - x.1) (0, left - l.length) (⟨Nat.zero_le _, by simp only; omega, by simp only; omega, by simp only [List.drop_zero]; rw [subI_add (by omega)]; rfl⟩) (weak_mk rfl ⟨.refl _, .refl _, .refl _, .refl _, trivial⟩ trivial) (fun _ => Nat.le_refl _) ?_
    rintro ⟨k, lf⟩ ⟨i1, i2, i3, i4⟩
    simp only at i1 i2 i3 i4
    rcases hx : l[k]? with _ | x
    · have hle := none_le hx
      have ek : decide ((k : Int) < (l.length : Int)) = false := decide_eq_false (by omega)
      rw [drop_none hx] at i4
      repeat' first
        | refine Z1 ?_ | refine Z2 ?_ | refine Z3 ?_ | refine Z4 ?_ | refine Z5 ?_ | refine Z6 ?_ | refine Z7 ?_ | refine Z8 ?_ | refine Z9 ?_ | refine Za (fun hc => ?_) (fun hc => ?_) | refine Zb (fun hc => ?_) (fun hc => ?_)
        | refine Zd ?_ | refine Ze ?_ | refine Zf ?_ | refine Zg ?_ | refine Zh ?_ | refine Zi ?_ | refine Zj ?_ | refine Zk ?_ | refine Zl ?_ | refine Zm ?_ | refine Zn (fun hc => ?_) (fun hc => ?_) | refine Zo ?_ | refine ok_seq ?_
        | refine ok_reg ?_ | refine Zp ?_ | refine Zq ?_ | refine Zr (fun hc => ?_) (fun hc => ?_) | refine ok_block ?_ | refine ok_exit ?_ | refine ok_skip ?_ | refine ok_ret ?_ | refine x_normal_then ?_ | refine x_exit_here ?_
        | refine Zs ?_ | refine Zv ?_ | refine x_ret_then ?_ | refine x_ret_block ?_ | refine x_normal_block ?_ | refine Zt ?_ | refine Zu ?_
      exact ret_vi (by rw [← i4]; simp [subI]; omega)
    · obtain ⟨hdr, hlt2⟩ := drop_some hx
      have ek : decide ((k : Int) < (l.length : Int)) = true := decide_eq_true (by omega)
      rw [hdr, List.map_cons, List.sum_cons] at i4
      have hdx := hd2 x (List.mem_of_getElem? hx)
      by_cases hn : subI lf (wVr x) < 0
      · have en : decide (subI lf (wVr x) < 0) = true := decide_eq_true hn
        obtain ⟨hn1, hn2⟩ := subI_neg hn
        repeat' first
          | refine Z1 ?_ | refine Z2 ?_ | refine Z3 ?_ | refine Z4 ?_ | refine Z5 ?_ | refine Z6 ?_ | refine Z7 ?_ | refine Z8 ?_ | refine Z9 ?_ | refine Za (fun hc => ?_) (fun hc => ?_) | refine Zb (fun hc => ?_) (fun hc => ?_)
          | refine Zc (szVar_ok x lf i2 (by omega) hdx) ?_ | refine Zd ?_ | refine Ze ?_ | refine Zf ?_ | refine Zg ?_ | refine Zh ?_ | refine Zi ?_ | refine Zj ?_ | refine Zk ?_ | refine Zl ?_ | refine Zm ?_
          | refine Zn (fun hc => ?_) (fun hc => ?_) | refine Zo ?_ | refine ok_seq ?_ | refine ok_reg ?_ | refine Zp ?_ | refine Zq ?_ | refine Zr (fun hc => ?_) (fun hc => ?_) | refine ok_block ?_ | refine ok_exit ?_ | refine ok_skip ?_
          | refine ok_ret ?_ | refine x_normal_then ?_ | refine x_exit_here ?_ | refine Zs ?_ | refine Zv ?_ | refine x_ret_then ?_ | refine x_ret_block ?_ | refine x_normal_block ?_ | refine Zt ?_ | refine Zu ?_
        exact ret_vi (by rw [← i4, subI_over (by omega)])
      · have en : decide (subI lf (wVr x) < 0) = false := decide_eq_false hn
        obtain ⟨hn1, hn2⟩ := subI_pos hn i2
        repeat' first
          | refine Z1 ?_ | refine Z2 ?_ | refine Z3 ?_ | refine Z4 ?_ | refine Z5 ?_ | refine Z6 ?_ | refine Z7 ?_ | refine Z8 ?_ | refine Z9 ?_ | refine Za (fun hc => ?_) (fun hc => ?_) | refine Zb (fun hc => ?_) (fun hc => ?_)
          | refine Zc (szVar_ok x lf i2 (by omega) hdx) ?_ | refine Zd ?_ | refine Ze ?_ | refine Zf ?_ | refine Zg ?_ | refine Zh ?_ | refine Zi ?_ | refine Zj ?_ | refine Zk ?_ | refine Zl ?_ | refine Zm ?_
          | refine Zn (fun hc => ?_) (fun hc => ?_) | refine Zo ?_ | refine ok_seq ?_ | refine ok_reg ?_ | refine Zp ?_ | refine Zq ?_ | refine Zr (fun hc => ?_) (fun hc => ?_) | refine ok_block ?_ | refine ok_exit ?_ | refine ok_skip ?_
          | refine ok_ret ?_ | refine x_normal_then ?_ | refine x_exit_here ?_ | refine Zs ?_ | refine Zv ?_ | refine x_ret_then ?_ | refine x_ret_block ?_ | refine x_normal_block ?_ | refine Zt ?_ | refine Zu ?_
        exact ⟨(k + 1, subI lf (wVr x)), ⟨by simp only; omega, by simp only; omega, by simp only; omega, by simp only; rw [hn2, subI_add hn1]; exact i4⟩, by (try simp only); omega, low_mk (Nat.zero_le _) ⟨⟨rfl, rfl⟩, ⟨rfl, rfl⟩, ⟨rfl, rfl⟩, ⟨rfl, rfl⟩, trivial⟩ trivial⟩

theorem szEquation_ok (x : Eqn) (left : Int) (h0 : 0 ≤ left) (h1 : left ≤ 1048576) (hd : dEqn x) : PFun X 51 [.agg ((eEqn x).map .d), vi left] (vi (subI left (wEqn x))) := by
  obtain ⟨hd0, hd1, hd2, hd3⟩ := hd
  have hd2 : x.call.size ≤ 9223372036854775807 := hd2
  refine pfun_of Tryd.func51 rfl (by decide) Tryd.ntmps51 Tryd.results51 (by simp) rfl rfl ?_
  by_cases hn0 : subI (left) (wL wStr x.lhs) < 0
  · have en0 : decide (subI (left) (wL wStr x.lhs) < 0) = true := decide_eq_true hn0
    obtain ⟨ha0, hb0⟩ := subI_neg hn0
    repeat' first
      | refine Z1 ?_ | refine Z2 ?_ | refine Z3 ?_ | refine Z4 ?_ | refine Z5 ?_ | refine Z6 ?_ | refine Z7 ?_ | refine Z8 ?_ | refine Z9 ?_ | refine Za (fun hc => ?_) (fun hc => ?_) | refine Zb (fun hc => ?_) (fun hc => ?_)
      | refine Zc (szStringS_ok x.lhs (left) (by omega) (by omega) hd0) ?_ | refine Zd ?_ | refine Ze ?_ | refine Zf ?_ | refine Zg ?_ | refine Zh ?_ | refine Zi ?_ | refine Zj ?_ | refine Zk ?_ | refine Zl ?_ | refine Zm ?_
      | refine Zn (fun hc => ?_) (fun hc => ?_) | refine Zo ?_ | refine ok_seq ?_ | refine ok_reg ?_ | refine Zp ?_ | refine Zq ?_ | refine Zr (fun hc => ?_) (fun hc => ?_) | refine ok_block ?_ | refine ok_exit ?_ | refine ok_skip ?_
      | refine ok_ret ?_ | refine x_normal_then ?_ | refine x_exit_here ?_ | refine Zs ?_ | refine Zv ?_ | refine x_ret_then ?_ | refine x_ret_block ?_ | refine x_normal_block ?_ | refine Zt ?_ | refine Zu ?_
    exact ret_vi (by rw [subI_over (by simp only [wEqn]; omega)])
  have en0 : decide (subI (left) (wL wStr x.lhs) < 0) = false := decide_eq_false hn0
  obtain ⟨ha0, hb0⟩ := subI_pos hn0 (by omega)
  by_cases hn1 : subI (subI (left) (wL wStr x.lhs)) (wL wItm x.code) < 0
  · have en1 : decide (subI (subI (left) (wL wStr x.lhs)) (wL wItm x.code) < 0) = true := decide_eq_true hn1
    obtain ⟨ha1, hb1⟩ := subI_neg hn1
    repeat' first
      | refine Z1 ?_ | refine Z2 ?_ | refine Z3 ?_ | refine Z4 ?_ | refine Z5 ?_ | refine Z6 ?_ | refine Z7 ?_ | refine Z8 ?_ | refine Z9 ?_ | refine Za (fun hc => ?_) (fun hc => ?_) | refine Zb (fun hc => ?_) (fun hc => ?_)
      | refine Zc (szStringS_ok x.lhs (left) (by omega) (by omega) hd0) ?_ | refine Zc (szItemS_ok x.code (subI (left) (wL wStr x.lhs)) (by omega) (by omega) hd1) ?_ | refine Zd ?_ | refine Ze ?_ | refine Zf ?_ | refine Zg ?_ | refine Zh ?_
      | refine Zi ?_ | refine Zj ?_ | refine Zk ?_ | refine Zl ?_ | refine Zm ?_ | refine Zn (fun hc => ?_) (fun hc => ?_) | refine Zo ?_ | refine ok_seq ?_ | refine ok_reg ?_ | refine Zp ?_ | refine Zq ?_
      | refine Zr (fun hc => ?_) (fun hc => ?_) | refine ok_block ?_ | refine ok_exit ?_ | refine ok_skip ?_ | refine ok_ret ?_ | refine x_normal_then ?_ | refine x_exit_here ?_ | refine Zs ?_ | refine Zv ?_ | refine x_ret_then ?_
      | refine x_ret_block ?_ | refine x_normal_block ?_ | refine Zt ?_ | refine Zu ?_
    exact ret_vi (by rw [subI_over (by simp only [wEqn]; omega)])
  have en1 : decide (subI (subI (left) (wL wStr x.lhs)) (wL wItm x.code) < 0) = false := decide_eq_false hn1
  obtain ⟨ha1, hb1⟩ := subI_pos hn1 (by omega)
  by_cases hn2 : subI (subI (left) (wL wStr x.lhs)) (wL wItm x.code) - (x.call.size : Int) < 0
  · have en2 : decide (subI (subI (left) (wL wStr x.lhs)) (wL wItm x.code) - (x.call.size : Int) < 0) = true := decide_eq_true hn2
    repeat' first
      | refine Z1 ?_ | refine Z2 ?_ | refine Z3 ?_ | refine Z4 ?_ | refine Z5 ?_ | refine Z6 ?_ | refine Z7 ?_ | refine Z8 ?_ | refine Z9 ?_ | refine Za (fun hc => ?_) (fun hc => ?_) | refine Zb (fun hc => ?_) (fun hc => ?_)
      | refine Zc (szStringS_ok x.lhs (left) (by omega) (by omega) hd0) ?_ | refine Zc (szItemS_ok x.code (subI (left) (wL wStr x.lhs)) (by omega) (by omega) hd1) ?_ | refine Zd ?_ | refine Ze ?_ | refine Zf ?_ | refine Zg ?_ | refine Zh ?_
      | refine Zi ?_ | refine Zj ?_ | refine Zk ?_ | refine Zl ?_ | refine Zm ?_ | refine Zn (fun hc => ?_) (fun hc => ?_) | refine Zo ?_ | refine ok_seq ?_ | refine ok_reg ?_ | refine Zp ?_ | refine Zq ?_
      | refine Zr (fun hc => ?_) (fun hc => ?_) | refine ok_block ?_ | refine ok_exit ?_ | refine ok_skip ?_ | refine ok_ret ?_ | refine x_normal_then ?_ | refine x_exit_here ?_ | refine Zs ?_ | refine Zv ?_ | refine x_ret_then ?_
      | refine x_ret_block ?_ | refine x_normal_block ?_ | refine Zt ?_ | refine Zu ?_
    exact ret_vi (by rw [subI_over (by simp only [wEqn]; omega)])
  have en2 : decide (subI (subI (left) (wL wStr x.lhs)) (wL wItm x.code) - (x.call.size : Int) < 0) = false := decide_eq_false hn2
  by_cases hn3 : subI (subI (subI (left) (wL wStr x.lhs)) (wL wItm x.code) - (x.call.size : Int)) (wL (wL wItm) x.args) < 0
  · have en3 : decide (subI (subI (subI (left) (wL wStr x.lhs)) (wL wItm x.code) - (x.call.size : Int)) (wL (wL wItm) x.args) < 0) = true := decide_eq_true hn3
    obtain ⟨ha3, hb3⟩ := subI_neg hn3
    repeat' first
      | refine Z1 ?_ | refine Z2 ?_ | refine Z3 ?_ | refine Z4 ?_ | refine Z5 ?_ | refine Z6 ?_ | refine Z7 ?_ | refine Z8 ?_ | refine Z9 ?_ | refine Za (fun hc => ?_) (fun hc => ?_) | refine Zb (fun hc => ?_) (fun hc => ?_)
      | refine Zc (szStringS_ok x.lhs (left) (by omega) (by omega) hd0) ?_ | refine Zc (szItemS_ok x.code (subI (left) (wL wStr x.lhs)) (by omega) (by omega) hd1) ?_
      | refine Zc (szItemSS_ok x.args (subI (subI (left) (wL wStr x.lhs)) (wL wItm x.code) - (x.call.size : Int)) (by omega) (by omega) hd3) ?_ | refine Zd ?_ | refine Ze ?_ | refine Zf ?_ | refine Zg ?_ | refine Zh ?_ | refine Zi ?_
      | refine Zj ?_ | refine Zk ?_ | refine Zl ?_ | refine Zm ?_ | refine Zn (fun hc => ?_) (fun hc => ?_) | refine Zo ?_ | refine ok_seq ?_ | refine ok_reg ?_ | refine Zp ?_ | refine Zq ?_ | refine Zr (fun hc => ?_) (fun hc => ?_)
      | refine ok_block ?_ | refine ok_exit ?_ | refine ok_skip ?_ | refine ok_ret ?_ | refine x_normal_then ?_ | refine x_exit_here ?_ | refine Zs ?_ | refine Zv ?_ | refine x_ret_then ?_ | refine x_ret_block ?_ | refine x_normal_block ?_
      | refine Zt ?_ | refine Zu ?_
    exact ret_vi (by rw [subI_over (by simp only [wEqn]; omega)])
  have en3 : decide (subI (subI (subI (left) (wL wStr x.lhs)) (wL wItm x.code) - (x.call.size : Int)) (wL (wL wItm) x.args) < 0) = false := decide_eq_false hn3
  obtain ⟨ha3, hb3⟩ := subI_pos hn3 (by omega)
  repeat' first
    | refine Z1 ?_ | refine Z2 ?_ | refine Z3 ?_ | refine Z4 ?_ | refine Z5 ?_ | refine Z6 ?_ | refine Z7 ?_ | refine Z8 ?_ | refine Z9 ?_ | refine Za (fun hc => ?_) (fun hc => ?_) | refine Zb (fun hc => ?_) (fun hc => ?_)
    | refine Zc (szStringS_ok x.lhs (left) (by omega) (by omega) hd0) ?_ | refine Zc (szItemS_ok x.code (subI (left) (wL wStr x.lhs)) (by omega) (by omega) hd1) ?_
    | refine Zc (szItemSS_ok x.args (subI (subI (left) (wL wStr x.lhs)) (wL wItm x.code) - (x.call.size : Int)) (by omega) (by omega) hd3) ?_ | refine Zd ?_ | refine Ze ?_ | refine Zf ?_ | refine Zg ?_ | refine Zh ?_ | refine Zi ?_
    | refine Zj ?_ | refine Zk ?_ | refine Zl ?_ | refine Zm ?_ | refine Zn (fun hc => ?_) (fun hc => ?_) | refine Zo ?_ | refine ok_seq ?_ | refine ok_reg ?_ | refine Zp ?_ | refine Zq ?_ | refine Zr (fun hc => ?_) (fun hc => ?_)
    | refine ok_block ?_ | refine ok_exit ?_ | refine ok_skip ?_ | refine ok_ret ?_ | refine x_normal_then ?_ | refine x_exit_here ?_ | refine Zs ?_ | refine Zv ?_ | refine x_ret_then ?_ | refine x_ret_block ?_ | refine x_normal_block ?_
    | refine Zt ?_ | refine Zu ?_
  exact ret_vi (by rw [subI_in (left := left) (n := wEqn x) (by simp only [wEqn]; omega)]; (simp only [wEqn] <;> omega))

theorem szEquationS_ok (l : List (Eqn)) (left : Int) (h0 : 0 ≤ left) (h1 : left ≤ 1048576) (hd : dL (dEqn) l) : PFun X 37 [.d (.im (l.map eEqn)), vi left] (vi (subI left (wL (wEqn) l))) := by
  obtain ⟨hd1, hd2⟩ := hd
  simp only [mx] at hd1
  refine pfun_of Tryd.func37 rfl (by decide) Tryd.ntmps37 Tryd.results37 (by simp) rfl rfl ?_
  by_cases hlt : left - (l.length : Int) < 0
  · have e1 : decide (left - (l.length : Int) < 0) = true := decide_eq_true hlt
    repeat' first
      | refine Z1 ?_ | refine Z2 ?_ | refine Z3 ?_ | refine Z4 ?_ | refine Z5 ?_ | refine Z6 ?_ | refine Z7 ?_ | refine Z8 ?_ | refine Z9 ?_ | refine Za (fun hc => ?_) (fun hc => ?_) | refine Zb (fun hc => ?_) (fun hc => ?_) | refine Zd ?_
      | refine Ze ?_ | refine Zf ?_ | refine Zg ?_ | refine Zh ?_ | refine Zi ?_ | refine Zj ?_ | refine Zk ?_ | refine Zl ?_ | refine Zm ?_ | refine Zn (fun hc => ?_) (fun hc => ?_) | refine Zo ?_ | refine ok_seq ?_ | refine ok_reg ?_
      | refine Zp ?_ | refine Zq ?_ | refine Zr (fun hc => ?_) (fun hc => ?_) | refine ok_block ?_ | refine ok_exit ?_ | refine ok_skip ?_ | refine ok_ret ?_ | refine x_normal_then ?_ | refine x_exit_here ?_ | refine Zs ?_ | refine Zv ?_
      | refine x_ret_then ?_ | refine x_ret_block ?_ | refine x_normal_block ?_ | refine Zt ?_ | refine Zu ?_
    exact ret_vi (by rw [subI_over (by simp only [wL]; omega)])
  · have e1 : decide (left - (l.length : Int) < 0) = false := decide_eq_false hlt
    repeat' first
      | refine Z1 ?_ | refine Z2 ?_ | refine Z3 ?_ | refine Z4 ?_ | refine Z5 ?_ | refine Z6 ?_ | refine Z7 ?_ | refine Z8 ?_ | refine Z9 ?_ | refine Za (fun hc => ?_) (fun hc => ?_) | refine Zb (fun hc => ?_) (fun hc => ?_) | refine Zd ?_
      | refine Ze ?_ | refine Zf ?_ | refine Zg ?_ | refine Zh ?_ | refine Zi ?_ | refine Zj ?_ | refine Zk ?_ | refine Zl ?_ | refine Zm ?_ | refine Zn (fun hc => ?_) (fun hc => ?_) | refine Zo ?_ | refine ok_seq ?_ | refine ok_reg ?_
      | refine Zp ?_ | refine Zq ?_ | refine Zr (fun hc => ?_) (fun hc => ?_) | refine ok_block ?_ | refine ok_exit ?_ | refine ok_skip ?_ | refine ok_ret ?_ | refine x_normal_then ?_ | refine x_exit_here ?_ | refine Zs ?_ | refine Zv ?_
      | refine x_ret_then ?_ | refine x_ret_block ?_ | refine x_normal_block ?_ | refine Zt ?_ | refine Zu ?_
    refine ok_for (ι := Nat × Int) (fun x => envL [(0, .d (.im (l.map eEqn))), (1, vi x.2), (4, vi 0), (5, vi x.1)]) (fun x => stL []) (fun x => x.1 ≤ l.length ∧ 0 ≤ x.2 ∧ x.2 ≤ left ∧ subI x.2 ((l.drop x.1).map (wEqn)).sum = subI left (wL (wEqn) l)) (fun x => l.length - x.1) (0, left - l.length) (⟨Nat.zero_le _, by simp only; omega, by simp only; omega, by simp only [List.drop_zero]; rw [subI_add (by omega)]; rfl⟩) (weak_mk rfl ⟨.refl _, .refl _, .refl _, .refl _, trivial⟩ trivial) (fun _ => Nat.le_refl _) ?_
    rintro ⟨k, lf⟩ ⟨i1, i2, i3, i4⟩
    simp only at i1 i2 i3 i4
    rcases hx : l[k]? with _ | x
    · have hle := none_le hx
      have ek : decide ((k : Int) < (l.length : Int)) = false := decide_eq_false (by omega)
      rw [drop_none hx] at i4
      repeat' first
        | refine Z1 ?_ | refine Z2 ?_ | refine Z3 ?_ | refine Z4 ?_ | refine Z5 ?_ | refine Z6 ?_ | refine Z7 ?_ | refine Z8 ?_ | refine Z9 ?_ | refine Za (fun hc => ?_) (fun hc => ?_) | refine Zb (fun hc => ?_) (fun hc => ?_)
        | refine Zd ?_ | refine Ze ?_ | refine Zf ?_ | refine Zg ?_ | refine Zh ?_ | refine Zi ?_ | refine Zj ?_ | refine Zk ?_ | refine Zl ?_ | refine Zm ?_ | refine Zn (fun hc => ?_) (fun hc => ?_) | refine Zo ?_ | refine ok_seq ?_
        | refine ok_reg ?_ | refine Zp ?_ | refine Zq ?_ | refine Zr (fun hc => ?_) (fun hc => ?_) | refine ok_block ?_ | refine ok_exit ?_ | refine ok_skip ?_ | refine ok_ret ?_ | refine x_normal_then ?_ | refine x_exit_here ?_
        | refine Zs ?_ | refine Zv ?_ | refine x_ret_then ?_ | refine x_ret_block ?_ | refine x_normal_block ?_ | refine Zt ?_ | refine Zu ?_
      exact ret_vi (by rw [← i4]; simp [subI]; omega)
    · obtain ⟨hdr, hlt2⟩ := drop_some hx
      have ek : decide ((k : Int) < (l.length : Int)) = true := decide_eq_true (by omega)
      rw [hdr, List.map_cons, List.sum_cons] at i4
      have hdx := hd2 x (List.mem_of_getElem? hx)
      by_cases hn : subI lf (wEqn x) < 0
      · have en : decide (subI lf (wEqn x) < 0) = true := decide_eq_true hn
        obtain ⟨hn1, hn2⟩ := subI_neg hn
        repeat' first
          | refine Z1 ?_ | refine Z2 ?_ | refine Z3 ?_ | refine Z4 ?_ | refine Z5 ?_ | refine Z6 ?_ | refine Z7 ?_ | refine Z8 ?_ | refine Z9 ?_ | refine Za (fun hc => ?_) (fun hc => ?_) | refine Zb (fun hc => ?_) (fun hc => ?_)
          | refine Zc (szEquation_ok x lf i2 (by omega) hdx) ?_ | refine Zd ?_ | refine Ze ?_ | refine Zf ?_ | refine Zg ?_ | refine Zh ?_ | refine Zi ?_ | refine Zj ?_ | refine Zk ?_ | refine Zl ?_ | refine Zm ?_
          | refine Zn (fun hc => ?_) (fun hc => ?_) | refine Zo ?_ | refine ok_seq ?_ | refine ok_reg ?_ | refine Zp ?_ | refine Zq ?_ | refine Zr (fun hc => ?_) (fun hc => ?_) | refine ok_block ?_ | refine ok_exit ?_ | refine ok_skip ?_
          | refine ok_ret ?_ | refine x_normal_then ?_ | refine x_exit_here ?_ | refine Zs ?_ | refine Zv ?_ | refine x_ret_then ?_ | refine x_ret_block ?_ | refine x_normal_block ?_ | refine Zt ?_ | refine Zu ?_
        exact ret_vi (by rw [← i4, subI_over (by omega)])
      · have en : decide (subI lf (wEqn x) < 0) = false := decide_eq_false hn
        obtain ⟨hn1, hn2⟩ := subI_pos hn i2
        repeat' first
          | refine Z1 ?_ | refine Z2 ?_ | refine Z3 ?_ | refine Z4 ?_ | refine Z5 ?_ | refine Z6 ?_ | refine Z7 ?_ | refine Z8 ?_ | refine Z9 ?_ | refine Za (fun hc => ?_) (fun hc => ?_) | refine Zb (fun hc => ?_) (fun hc => ?_)
          | refine Zc (szEquation_ok x lf i2 (by omega) hdx) ?_ | refine Zd ?_ | refine Ze ?_ | refine Zf ?_ | refine Zg ?_ | refine Zh ?_ | refine Zi ?_ | refine Zj ?_ | refine Zk ?_ | refine Zl ?_ | refine Zm ?_
          | refine Zn (fun hc => ?_) (fun hc => ?_) | refine Zo ?_ | refine ok_seq ?_ | refine ok_reg ?_ | refine Zp ?_ | refine Zq ?_ | refine Zr (fun hc => ?_) (fun hc => ?_) | refine ok_block ?_ | refine ok_exit ?_ | refine ok_skip ?_
          | refine ok_ret ?_ | refine x_normal_then ?_ | refine x_exit_here ?_ | refine Zs ?_ | refine Zv ?_ | refine x_ret_then ?_ | refine x_ret_block ?_ | refine x_normal_block ?_ | refine Zt ?_ | refine Zu ?_
        exact ⟨(k + 1, subI lf (wEqn x)), ⟨by simp only; omega, by simp only; omega, by simp only; omega, by simp only; rw [hn2, subI_add hn1]; exact i4⟩, by (try simp only); omega, low_mk (Nat.zero_le _) ⟨⟨rfl, rfl⟩, ⟨rfl, rfl⟩, ⟨rfl, rfl⟩, ⟨rfl, rfl⟩, trivial⟩ trivial⟩

theorem szNode_ok (x : Nod) (left : Int) (h0 : 0 ≤ left) (h1 : left ≤ 1048576) (hd : dNod x) : PFun X 22 [.agg ((eNod x).map .d), vi left] (vi (subI left (wNod x))) := by
  obtain ⟨hd0, hd1, hd2, hd3, hd4⟩ := hd
  have hd0 : x.name.size ≤ 9223372036854775807 := hd0
  refine pfun_of Tryd.func22 rfl (by decide) Tryd.ntmps22 Tryd.results22 (by simp) rfl rfl ?_
  by_cases hn0 : left - (x.name.size : Int) < 0
  · have en0 : decide (left - (x.name.size : Int) < 0) = true := decide_eq_true hn0
    repeat' first
      | refine Z1 ?_ | refine Z2 ?_ | refine Z3 ?_ | refine Z4 ?_ | refine Z5 ?_ | refine Z6 ?_ | refine Z7 ?_ | refine Z8 ?_ | refine Z9 ?_ | refine Za (fun hc => ?_) (fun hc => ?_) | refine Zb (fun hc => ?_) (fun hc => ?_) | refine Zd ?_
      | refine Ze ?_ | refine Zf ?_ | refine Zg ?_ | refine Zh ?_ | refine Zi ?_ | refine Zj ?_ | refine Zk ?_ | refine Zl ?_ | refine Zm ?_ | refine Zn (fun hc => ?_) (fun hc => ?_) | refine Zo ?_ | refine ok_seq ?_ | refine ok_reg ?_
      | refine Zp ?_ | refine Zq ?_ | refine Zr (fun hc => ?_) (fun hc => ?_) | refine ok_block ?_ | refine ok_exit ?_ | refine ok_skip ?_ | refine ok_ret ?_ | refine x_normal_then ?_ | refine x_exit_here ?_ | refine Zs ?_ | refine Zv ?_
      | refine x_ret_then ?_ | refine x_ret_block ?_ | refine x_normal_block ?_ | refine Zt ?_ | refine Zu ?_
    exact ret_vi (by rw [subI_over (by simp only [wNod]; omega)])
  have en0 : decide (left - (x.name.size : Int) < 0) = false := decide_eq_false hn0
  by_cases hn1 : subI (left - (x.name.size : Int)) (wL wVr x.ins) < 0
  · have en1 : decide (subI (left - (x.name.size : Int)) (wL wVr x.ins) < 0) = true := decide_eq_true hn1
    obtain ⟨ha1, hb1⟩ := subI_neg hn1
    repeat' first
      | refine Z1 ?_ | refine Z2 ?_ | refine Z3 ?_ | refine Z4 ?_ | refine Z5 ?_ | refine Z6 ?_ | refine Z7 ?_ | refine Z8 ?_ | refine Z9 ?_ | refine Za (fun hc => ?_) (fun hc => ?_) | refine Zb (fun hc => ?_) (fun hc => ?_)
      | refine Zc (szVarS_ok x.ins (left - (x.name.size : Int)) (by omega) (by omega) hd1) ?_ | refine Zd ?_ | refine Ze ?_ | refine Zf ?_ | refine Zg ?_ | refine Zh ?_ | refine Zi ?_ | refine Zj ?_ | refine Zk ?_ | refine Zl ?_
      | refine Zm ?_ | refine Zn (fun hc => ?_) (fun hc => ?_) | refine Zo ?_ | refine ok_seq ?_ | refine ok_reg ?_ | refine Zp ?_ | refine Zq ?_ | refine Zr (fun hc => ?_) (fun hc => ?_) | refine ok_block ?_ | refine ok_exit ?_
      | refine ok_skip ?_ | refine ok_ret ?_ | refine x_normal_then ?_ | refine x_exit_here ?_ | refine Zs ?_ | refine Zv ?_ | refine x_ret_then ?_ | refine x_ret_block ?_ | refine x_normal_block ?_ | refine Zt ?_ | refine Zu ?_
    exact ret_vi (by rw [subI_over (by simp only [wNod]; omega)])
  have en1 : decide (subI (left - (x.name.size : Int)) (wL wVr x.ins) < 0) = false := decide_eq_false hn1
  obtain ⟨ha1, hb1⟩ := subI_pos hn1 (by omega)
  by_cases hn2 : subI (subI (left - (x.name.size : Int)) (wL wVr x.ins)) (wL wVr x.outs) < 0
  · have en2 : decide (subI (subI (left - (x.name.size : Int)) (wL wVr x.ins)) (wL wVr x.outs) < 0) = true := decide_eq_true hn2
    obtain ⟨ha2, hb2⟩ := subI_neg hn2
    repeat' first
      | refine Z1 ?_ | refine Z2 ?_ | refine Z3 ?_ | refine Z4 ?_ | refine Z5 ?_ | refine Z6 ?_ | refine Z7 ?_ | refine Z8 ?_ | refine Z9 ?_ | refine Za (fun hc => ?_) (fun hc => ?_) | refine Zb (fun hc => ?_) (fun hc => ?_)
      | refine Zc (szVarS_ok x.ins (left - (x.name.size : Int)) (by omega) (by omega) hd1) ?_ | refine Zc (szVarS_ok x.outs (subI (left - (x.name.size : Int)) (wL wVr x.ins)) (by omega) (by omega) hd2) ?_ | refine Zd ?_ | refine Ze ?_
      | refine Zf ?_ | refine Zg ?_ | refine Zh ?_ | refine Zi ?_ | refine Zj ?_ | refine Zk ?_ | refine Zl ?_ | refine Zm ?_ | refine Zn (fun hc => ?_) (fun hc => ?_) | refine Zo ?_ | refine ok_seq ?_ | refine ok_reg ?_ | refine Zp ?_
      | refine Zq ?_ | refine Zr (fun hc => ?_) (fun hc => ?_) | refine ok_block ?_ | refine ok_exit ?_ | refine ok_skip ?_ | refine ok_ret ?_ | refine x_normal_then ?_ | refine x_exit_here ?_ | refine Zs ?_ | refine Zv ?_
      | refine x_ret_then ?_ | refine x_ret_block ?_ | refine x_normal_block ?_ | refine Zt ?_ | refine Zu ?_
    exact ret_vi (by rw [subI_over (by simp only [wNod]; omega)])
  have en2 : decide (subI (subI (left - (x.name.size : Int)) (wL wVr x.ins)) (wL wVr x.outs) < 0) = false := decide_eq_false hn2
  obtain ⟨ha2, hb2⟩ := subI_pos hn2 (by omega)
  by_cases hn3 : subI (subI (subI (left - (x.name.size : Int)) (wL wVr x.ins)) (wL wVr x.outs)) (wL wVr x.vars) < 0
  · have en3 : decide (subI (subI (subI (left - (x.name.size : Int)) (wL wVr x.ins)) (wL wVr x.outs)) (wL wVr x.vars) < 0) = true := decide_eq_true hn3
    obtain ⟨ha3, hb3⟩ := subI_neg hn3
    repeat' first
      | refine Z1 ?_ | refine Z2 ?_ | refine Z3 ?_ | refine Z4 ?_ | refine Z5 ?_ | refine Z6 ?_ | refine Z7 ?_ | refine Z8 ?_ | refine Z9 ?_ | refine Za (fun hc => ?_) (fun hc => ?_) | refine Zb (fun hc => ?_) (fun hc => ?_)
      | refine Zc (szVarS_ok x.ins (left - (x.name.size : Int)) (by omega) (by omega) hd1) ?_ | refine Zc (szVarS_ok x.outs (subI (left - (x.name.size : Int)) (wL wVr x.ins)) (by omega) (by omega) hd2) ?_
      | refine Zc (szVarS_ok x.vars (subI (subI (left - (x.name.size : Int)) (wL wVr x.ins)) (wL wVr x.outs)) (by omega) (by omega) hd3) ?_ | refine Zd ?_ | refine Ze ?_ | refine Zf ?_ | refine Zg ?_ | refine Zh ?_ | refine Zi ?_
      | refine Zj ?_ | refine Zk ?_ | refine Zl ?_ | refine Zm ?_ | refine Zn (fun hc => ?_) (fun hc => ?_) | refine Zo ?_ | refine ok_seq ?_ | refine ok_reg ?_ | refine Zp ?_ | refine Zq ?_ | refine Zr (fun hc => ?_) (fun hc => ?_)
      | refine ok_block ?_ | refine ok_exit ?_ | refine ok_skip ?_ | refine ok_ret ?_ | refine x_normal_then ?_ | refine x_exit_here ?_ | refine Zs ?_ | refine Zv ?_ | refine x_ret_then ?_ | refine x_ret_block ?_ | refine x_normal_block ?_
      | refine Zt ?_ | refine Zu ?_
    exact ret_vi (by rw [subI_over (by simp only [wNod]; omega)])
  have en3 : decide (subI (subI (subI (left - (x.name.size : Int)) (wL wVr x.ins)) (wL wVr x.outs)) (wL wVr x.vars) < 0) = false := decide_eq_false hn3
  obtain ⟨ha3, hb3⟩ := subI_pos hn3 (by omega)
  by_cases hn4 : subI (subI (subI (subI (left - (x.name.size : Int)) (wL wVr x.ins)) (wL wVr x.outs)) (wL wVr x.vars)) (wL wEqn x.eqs) < 0
  · have en4 : decide (subI (subI (subI (subI (left - (x.name.size : Int)) (wL wVr x.ins)) (wL wVr x.outs)) (wL wVr x.vars)) (wL wEqn x.eqs) < 0) = true := decide_eq_true hn4
    obtain ⟨ha4, hb4⟩ := subI_neg hn4
    repeat' first
      | refine Z1 ?_ | refine Z2 ?_ | refine Z3 ?_ | refine Z4 ?_ | refine Z5 ?_ | refine Z6 ?_ | refine Z7 ?_ | refine Z8 ?_ | refine Z9 ?_ | refine Za (fun hc => ?_) (fun hc => ?_) | refine Zb (fun hc => ?_) (fun hc => ?_)
      | refine Zc (szVarS_ok x.ins (left - (x.name.size : Int)) (by omega) (by omega) hd1) ?_ | refine Zc (szVarS_ok x.outs (subI (left - (x.name.size : Int)) (wL wVr x.ins)) (by omega) (by omega) hd2) ?_
      | refine Zc (szVarS_ok x.vars (subI (subI (left - (x.name.size : Int)) (wL wVr x.ins)) (wL wVr x.outs)) (by omega) (by omega) hd3) ?_
      | refine Zc (szEquationS_ok x.eqs (subI (subI (subI (left - (x.name.size : Int)) (wL wVr x.ins)) (wL wVr x.outs)) (wL wVr x.vars)) (by omega) (by omega) hd4) ?_ | refine Zd ?_ | refine Ze ?_ | refine Zf ?_ | refine Zg ?_
      | refine Zh ?_ | refine Zi ?_ | refine Zj ?_ | refine Zk ?_ | refine Zl ?_ | refine Zm ?_ | refine Zn (fun hc => ?_) (fun hc => ?_) | refine Zo ?_ | refine ok_seq ?_ | refine ok_reg ?_ | refine Zp ?_ | refine Zq ?_
      | refine Zr (fun hc => ?_) (fun hc => ?_) | refine ok_block ?_ | refine ok_exit ?_ | refine ok_skip ?_ | refine ok_ret ?_ | refine x_normal_then ?_ | refine x_exit_here ?_ | refine Zs ?_ | refine Zv ?_ | refine x_ret_then ?_
      | refine x_ret_block ?_ | refine x_normal_block ?_ | refine Zt ?_ | refine Zu ?_
    exact ret_vi (by rw [subI_over (by simp only [wNod]; omega)])
  have en4 : decide (subI (subI (subI (subI (left - (x.name.size : Int)) (wL wVr x.ins)) (wL wVr x.outs)) (wL wVr x.vars)) (wL wEqn x.eqs) < 0) = false := decide_eq_false hn4
  obtain ⟨ha4, hb4⟩ := subI_pos hn4 (by omega)
  repeat' first
    | refine Z1 ?_ | refine Z2 ?_ | refine Z3 ?_ | refine Z4 ?_ | refine Z5 ?_ | refine Z6 ?_ | refine Z7 ?_ | refine Z8 ?_ | refine Z9 ?_ | refine Za (fun hc => ?_) (fun hc => ?_) | refine Zb (fun hc => ?_) (fun hc => ?_)
    | refine Zc (szVarS_ok x.ins (left - (x.name.size : Int)) (by omega) (by omega) hd1) ?_ | refine Zc (szVarS_ok x.outs (subI (left - (x.name.size : Int)) (wL wVr x.ins)) (by omega) (by omega) hd2) ?_
    | refine Zc (szVarS_ok x.vars (subI (subI (left - (x.name.size : Int)) (wL wVr x.ins)) (wL wVr x.outs)) (by omega) (by omega) hd3) ?_
    | refine Zc (szEquationS_ok x.eqs (subI (subI (subI (left - (x.name.size : Int)) (wL wVr x.ins)) (wL wVr x.outs)) (wL wVr x.vars)) (by omega) (by omega) hd4) ?_ | refine Zd ?_ | refine Ze ?_ | refine Zf ?_ | refine Zg ?_ | refine Zh ?_
    | refine Zi ?_ | refine Zj ?_ | refine Zk ?_ | refine Zl ?_ | refine Zm ?_ | refine Zn (fun hc => ?_) (fun hc => ?_) | refine Zo ?_ | refine ok_seq ?_ | refine ok_reg ?_ | refine Zp ?_ | refine Zq ?_
    | refine Zr (fun hc => ?_) (fun hc => ?_) | refine ok_block ?_ | refine ok_exit ?_ | refine ok_skip ?_ | refine ok_ret ?_ | refine x_normal_then ?_ | refine x_exit_here ?_ | refine Zs ?_ | refine Zv ?_ | refine x_ret_then ?_
    | refine x_ret_block ?_ | refine x_normal_block ?_ | refine Zt ?_ | refine Zu ?_
  exact ret_vi (by rw [subI_in (left := left) (n := wNod x) (by simp only [wNod]; omega)]; (simp only [wNod] <;> omega))

theorem szNodeS_ok (l : List (Nod)) (left : Int) (h0 : 0 ≤ left) (h1 : left ≤ 1048576) (hd : dL (dNod) l) : PFun X 12 [.d (.im (l.map eNod)), vi left] (vi (subI left (wL (wNod) l))) := by
  obtain ⟨hd1, hd2⟩ := hd
  simp only [mx] at hd1
  refine pfun_of Tryd.func12 rfl (by decide) Tryd.ntmps12 Tryd.results12 (by simp) rfl rfl ?_
  by_cases hlt : left - (l.length : Int) < 0
  · have e1 : decide (left - (l.length : Int) < 0) = true := decide_eq_true hlt
    repeat' first
      | refine Z1 ?_ | refine Z2 ?_ | refine Z3 ?_ | refine Z4 ?_ | refine Z5 ?_ | refine Z6 ?_ | refine Z7 ?_ | refine Z8 ?_ | refine Z9 ?_ | refine Za (fun hc => ?_) (fun hc => ?_) | refine Zb (fun hc => ?_) (fun hc => ?_) | refine Zd ?_
      | refine Ze ?_ | refine Zf ?_ | refine Zg ?_ | refine Zh ?_ | refine Zi ?_ | refine Zj ?_ | refine Zk ?_ | refine Zl ?_ | refine Zm ?_ | refine Zn (fun hc => ?_) (fun hc => ?_) | refine Zo ?_ | refine ok_seq ?_ | refine ok_reg ?_
      | refine Zp ?_ | refine Zq ?_ | refine Zr (fun hc => ?_) (fun hc => ?_) | refine ok_block ?_ | refine ok_exit ?_ | refine ok_skip ?_ | refine ok_ret ?_ | refine x_normal_then ?_ | refine x_exit_here ?_ | refine Zs ?_ | refine Zv ?_
      | refine x_ret_then ?_ | refine x_ret_block ?_ | refine x_normal_block ?_ | refine Zt ?_ | refine Zu ?_
    exact ret_vi (by rw [subI_over (by simp only [wL]; omega)])
  · have e1 : decide (left - (l.length : Int) < 0) = false := decide_eq_false hlt
    repeat' first
      | refine Z1 ?_ | refine Z2 ?_ | refine Z3 ?_ | refine Z4 ?_ | refine Z5 ?_ | refine Z6 ?_ | refine Z7 ?_ | refine Z8 ?_ | refine Z9 ?_ | refine Za (fun hc => ?_) (fun hc => ?_) | refine Zb (fun hc => ?_) (fun hc => ?_) | refine Zd ?_
      | refine Ze ?_ | refine Zf ?_ | refine Zg ?_ | refine Zh ?_ | refine Zi ?_ | refine Zj ?_ | refine Zk ?_ | refine Zl ?_ | refine Zm ?_ | refine Zn (fun hc => ?_) (fun hc => ?_) | refine Zo ?_ | refine ok_seq ?_ | refine ok_reg ?_
      | refine Zp ?_ | refine Zq ?_ | refine Zr (fun hc => ?_) (fun hc => ?_) | refine ok_block ?_ | refine ok_exit ?_ | refine ok_skip ?_ | refine ok_ret ?_ | refine x_normal_then ?_ | refine x_exit_here ?_ | refine Zs ?_ | refine Zv ?_
      | refine x_ret_then ?_ | refine x_ret_block ?_ | refine x_normal_block ?_ | refine Zt ?_ | refine Zu ?_
    refine ok_for (ι := Nat × Int) (fun x => envL [(0, .d (.im (l.map eNod))), (1, vi x.2), (4, vi 0), (5, vi x.1)]) (fun x => stL []) (fun x => x.1 ≤ l.length ∧ 0 ≤ x.2 ∧ x.2 ≤ left ∧ subI x.2 ((l.drop x.1).map (wNod)).sum = subI left (wL (wNod) l)) (fun x => l.length - x.1) (0, left - l.length) (⟨Nat.zero_le _, by simp only; omega, by simp only; omega, by simp only [List.drop_zero]; rw [subI_add (by omega)]; rfl⟩) (weak_mk rfl ⟨.refl _, .refl _, .refl _, .refl _, trivial⟩ trivial) (fun _ => Nat.le_refl _) ?_
    rintro ⟨k, lf⟩ ⟨i1, i2, i3, i4⟩
    simp only at i1 i2 i3 i4
    rcases hx : l[k]? with _ | x
    · have hle := none_le hx
      have ek : decide ((k : Int) < (l.length : Int)) = false := decide_eq_false (by omega)
      rw [drop_none hx] at i4
      repeat' first
        | refine Z1 ?_ | refine Z2 ?_ | refine Z3 ?_ | refine Z4 ?_ | refine Z5 ?_ | refine Z6 ?_ | refine Z7 ?_ | refine Z8 ?_ | refine Z9 ?_ | refine Za (fun hc => ?_) (fun hc => ?_) | refine Zb (fun hc => ?_) (fun hc => ?_)
        | refine Zd ?_ | refine Ze ?_ | refine Zf ?_ | refine Zg ?_ | refine Zh ?_ | refine Zi ?_ | refine Zj ?_ | refine Zk ?_ | refine Zl ?_ | refine Zm ?_ | refine Zn (fun hc => ?_) (fun hc => ?_) | refine Zo ?_ | refine ok_seq ?_
        | refine ok_reg ?_ | refine Zp ?_ | refine Zq ?_ | refine Zr (fun hc => ?_) (fun hc => ?_) | refine ok_block ?_ | refine ok_exit ?_ | refine ok_skip ?_ | refine ok_ret ?_ | refine x_normal_then ?_ | refine x_exit_here ?_
        | refine Zs ?_ | refine Zv ?_ | refine x_ret_then ?_ | refine x_ret_block ?_ | refine x_normal_block ?_ | refine Zt ?_ | refine Zu ?_
      exact ret_vi (by rw [← i4]; simp [subI]; omega)
    · obtain ⟨hdr, hlt2⟩ := drop_some hx
      have ek : decide ((k : Int) < (l.length : Int)) = true := decide_eq_true (by omega)
      rw [hdr, List.map_cons, List.sum_cons] at i4
      have hdx := hd2 x (List.mem_of_getElem? hx)
      by_cases hn : subI lf (wNod x) < 0
      · have en : decide (subI lf (wNod x) < 0) = true := decide_eq_true hn
        obtain ⟨hn1, hn2⟩ := subI_neg hn
        repeat' first
          | refine Z1 ?_ | refine Z2 ?_ | refine Z3 ?_ | refine Z4 ?_ | refine Z5 ?_ | refine Z6 ?_ | refine Z7 ?_ | refine Z8 ?_ | refine Z9 ?_ | refine Za (fun hc => ?_) (fun hc => ?_) | refine Zb (fun hc => ?_) (fun hc => ?_)
          | refine Zc (szNode_ok x lf i2 (by omega) hdx) ?_ | refine Zd ?_ | refine Ze ?_ | refine Zf ?_ | refine Zg ?_ | refine Zh ?_ | refine Zi ?_ | refine Zj ?_ | refine Zk ?_ | refine Zl ?_ | refine Zm ?_
          | refine Zn (fun hc => ?_) (fun hc => ?_) | refine Zo ?_ | refine ok_seq ?_ | refine ok_reg ?_ | refine Zp ?_ | refine Zq ?_ | refine Zr (fun hc => ?_) (fun hc => ?_) | refine ok_block ?_ | refine ok_exit ?_ | refine ok_skip ?_
          | refine ok_ret ?_ | refine x_normal_then ?_ | refine x_exit_here ?_ | refine Zs ?_ | refine Zv ?_ | refine x_ret_then ?_ | refine x_ret_block ?_ | refine x_normal_block ?_ | refine Zt ?_ | refine Zu ?_
        exact ret_vi (by rw [← i4, subI_over (by omega)])
      · have en : decide (subI lf (wNod x) < 0) = false := decide_eq_false hn
        obtain ⟨hn1, hn2⟩ := subI_pos hn i2
        repeat' first
          | refine Z1 ?_ | refine Z2 ?_ | refine Z3 ?_ | refine Z4 ?_ | refine Z5 ?_ | refine Z6 ?_ | refine Z7 ?_ | refine Z8 ?_ | refine Z9 ?_ | refine Za (fun hc => ?_) (fun hc => ?_) | refine Zb (fun hc => ?_) (fun hc => ?_)
          | refine Zc (szNode_ok x lf i2 (by omega) hdx) ?_ | refine Zd ?_ | refine Ze ?_ | refine Zf ?_ | refine Zg ?_ | refine Zh ?_ | refine Zi ?_ | refine Zj ?_ | refine Zk ?_ | refine Zl ?_ | refine Zm ?_
          | refine Zn (fun hc => ?_) (fun hc => ?_) | refine Zo ?_ | refine ok_seq ?_ | refine ok_reg ?_ | refine Zp ?_ | refine Zq ?_ | refine Zr (fun hc => ?_) (fun hc => ?_) | refine ok_block ?_ | refine ok_exit ?_ | refine ok_skip ?_
          | refine ok_ret ?_ | refine x_normal_then ?_ | refine x_exit_here ?_ | refine Zs ?_ | refine Zv ?_ | refine x_ret_then ?_ | refine x_ret_block ?_ | refine x_normal_block ?_ | refine Zt ?_ | refine Zu ?_
        exact ⟨(k + 1, subI lf (wNod x)), ⟨by simp only; omega, by simp only; omega, by simp only; omega, by simp only; rw [hn2, subI_add hn1]; exact i4⟩, by (try simp only); omega, low_mk (Nat.zero_le _) ⟨⟨rfl, rfl⟩, ⟨rfl, rfl⟩, ⟨rfl, rfl⟩, ⟨rfl, rfl⟩, trivial⟩ trivial⟩

theorem szProgram_ok (l : List Nod) (left : Int) (h0 : 0 ≤ left) (h1 : left ≤ 1048576) (hd : dL dNod l) : PFun X 5 [.agg [.d (.im (l.map eNod))], vi left] (vi (subI left (wL wNod l))) := by
  refine pfun_of Tryd.func5 rfl (by decide) Tryd.ntmps5 Tryd.results5 (by simp) rfl rfl ?_
  by_cases hn : subI left (wL wNod l) < 0
  · have en : decide (subI left (wL wNod l) < 0) = true := decide_eq_true hn
    obtain ⟨hn1, hn2⟩ := subI_neg hn
    repeat' first
      | refine Z1 ?_ | refine Z2 ?_ | refine Z3 ?_ | refine Z4 ?_ | refine Z5 ?_ | refine Z6 ?_ | refine Z7 ?_ | refine Z8 ?_ | refine Z9 ?_ | refine Za (fun hc => ?_) (fun hc => ?_) | refine Zb (fun hc => ?_) (fun hc => ?_)
      | refine Zc (szNodeS_ok l left h0 h1 hd) ?_ | refine Zd ?_ | refine Ze ?_ | refine Zf ?_ | refine Zg ?_ | refine Zh ?_ | refine Zi ?_ | refine Zj ?_ | refine Zk ?_ | refine Zl ?_ | refine Zm ?_
      | refine Zn (fun hc => ?_) (fun hc => ?_) | refine Zo ?_ | refine ok_seq ?_ | refine ok_reg ?_ | refine Zp ?_ | refine Zq ?_ | refine Zr (fun hc => ?_) (fun hc => ?_) | refine ok_block ?_ | refine ok_exit ?_ | refine ok_skip ?_
      | refine ok_ret ?_ | refine x_normal_then ?_ | refine x_exit_here ?_ | refine Zs ?_ | refine Zv ?_ | refine x_ret_then ?_ | refine x_ret_block ?_ | refine x_normal_block ?_ | refine Zt ?_ | refine Zu ?_
    exact ret_vi hn2.symm
  · have en : decide (subI left (wL wNod l) < 0) = false := decide_eq_false hn
    repeat' first
      | refine Z1 ?_ | refine Z2 ?_ | refine Z3 ?_ | refine Z4 ?_ | refine Z5 ?_ | refine Z6 ?_ | refine Z7 ?_ | refine Z8 ?_ | refine Z9 ?_ | refine Za (fun hc => ?_) (fun hc => ?_) | refine Zb (fun hc => ?_) (fun hc => ?_)
      | refine Zc (szNodeS_ok l left h0 h1 hd) ?_ | refine Zd ?_ | refine Ze ?_ | refine Zf ?_ | refine Zg ?_ | refine Zh ?_ | refine Zi ?_ | refine Zj ?_ | refine Zk ?_ | refine Zl ?_ | refine Zm ?_
      | refine Zn (fun hc => ?_) (fun hc => ?_) | refine Zo ?_ | refine ok_seq ?_ | refine ok_reg ?_ | refine Zp ?_ | refine Zq ?_ | refine Zr (fun hc => ?_) (fun hc => ?_) | refine ok_block ?_ | refine ok_exit ?_ | refine ok_skip ?_
      | refine ok_ret ?_ | refine x_normal_then ?_ | refine x_exit_here ?_ | refine Zs ?_ | refine Zv ?_ | refine x_ret_then ?_ | refine x_ret_block ?_ | refine x_normal_block ?_ | refine Zt ?_ | refine Zu ?_
    rfl

end Go.Pm