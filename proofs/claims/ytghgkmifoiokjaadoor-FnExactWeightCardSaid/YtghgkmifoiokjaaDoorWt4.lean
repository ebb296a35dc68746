/- Weights: the two sides are one, and the law. -/
import Derived.Test.YtghgkmifoiokjaaDoorWt3
import Derived.Test.YtghgkmifoiokjaaDoorPl3
import Derived.Test.YtghgkmifoiokjaaDoorSz
set_option linter.unusedVariables false
set_option linter.unusedSimpArgs false
namespace Go.Pm
attribute [local irreducible] AR Ok inBlock andThen endQ aoper
set_option maxHeartbeats 1000000
open Go.Proofs
theorem cntS_t (L : Nat) : ∀ (k : Nat) (l : List Itm), cntS true L k l = cntB L k l
  | _, [] => rfl
  | k, x :: l => by simp only [cntS, cntB, cntS_t L (k + 1) l, true_and, ne_eq]
theorem cntS_f (L : Nat) : ∀ (k : Nat) (l : List Itm), cntS false L k l = cntA l
  | _, [] => rfl
  | k, x :: l => by simp [cntS, cntA, cntS_f L (k + 1) l]
theorem cntSs_f : ∀ l : List (List Itm), cntSs false l = cntAs l
  | [] => rfl
  | a :: l => by simp only [cntSs, cntAs, cntS_f, cntSs_f l]
theorem inner_eq (e : Eqn) (h : eqI e = true) : innerS e = innerI e ∧ lens (codesS e) = e.code.length + lens e.args := by
  unfold eqI at h
  split at h
  · cases h
  · split at h
    · cases h
    · split at h
      · rename_i hc
        split at h
        · cases h
        · rename_i h3
          have ha : e.args = [] := by
            cases hq : e.args with
            | nil => rfl
            | cons a l => exact absurd (.inr (.inl (by rw [hq]; simp only [List.length_cons]; omega))) h3
          simp [innerS, innerI, codesS, hc, cntSs, cntS_t, cntAs, ha, lens]
      · rename_i hc
        split at h
        · cases h
        · rename_i h3
          have ha : e.code = [] := by
            cases hq : e.code with
            | nil => rfl
            | cons a l => exact absurd (.inr (by rw [hq]; simp only [List.length_cons]; omega)) h3
          simp [innerS, innerI, codesS, hc, cntSs_f, cntB, ha, lens]
theorem fold_eq {pre : List Nod} {ws : List Int} (hb : wB ws) : ∀ (l : List Eqn) (w : Int), (∀ e ∈ l, eqI e = true) → w ≤ 20001 → foldW pre ws w l = min (w + sumW pre ws l) 20001
  | [], w, _, hw => by simp only [foldW, sumW]; omega
  | e :: l, w, h, hw => by
    obtain ⟨h1, h2⟩ := inner_eq e (h e (by simp))
    have h3 := fold_eq (pre := pre) hb l (eqWS pre ws w e) (fun e' he' => h e' (by simp [he'])) (by simp only [eqWS]; omega)
    have h4 := sumW_nn (pre := pre) hb l
    simp only [foldW, h3, sumW, eqW]
    simp only [eqWS, h1, h2]
    omega
theorem wsGo_eq : ∀ (r pre : List Nod) (ws : List Int), wB ws → (∀ x ∈ r, ∀ e ∈ x.eqs, eqI e = true) → wsGoS pre ws r = wsGo pre ws r
  | [], _, _, _, _ => rfl
  | x :: r, pre, ws, hb, h => by
    have h1 : foldW pre ws 1 x.eqs = nodW pre ws x := by
      rw [fold_eq hb _ _ (h x (by simp)) (by omega)]; rfl
    have h2 := sumW_nn (pre := pre) hb x.eqs
    have hb2 : wB (ws ++ [nodW pre ws x]) := by
      intro y hy
      rcases List.mem_append.1 hy with h | h
      · exact hb y h
      · simp only [List.mem_singleton] at h; subst h; simp only [nodW]; omega
    simp only [wsGoS, wsGo, h1]
    exact wsGo_eq r _ _ hb2 fun x' hx' => h x' (by simp [hx'])
theorem shape_eqs {p : List Nod} (h : shapeI p = true) : ∀ x ∈ p, ∀ e ∈ x.eqs, eqI e = true := by
  intro x hx e he
  unfold shapeI at h
  split at h
  · cases h
  · have := List.all_eq_true.1 h x hx
    unfold nodI at this
    split at this
    · cases this
    · simp only [Bool.and_eq_true] at this
      exact List.all_eq_true.1 this.2 e he
theorem ws_eq (p : List Nod) (h : shapeI p = true) : wsS p = wsI p := wsGo_eq p [] [] (fun x hx => by simp at hx) (shape_eqs h)
def weightI (p : List Nod) (n : Int) : Int := if shapeI p = false ∨ n < 0 ∨ (p.length : Int) ≤ n then -1 else (wsI p).getD n.toNat 0
theorem weight_ok (p : List Nod) (n : Int) (hw : wL wNod p ≤ 1048576) : PFun X 11 [.agg [.d (.im (p.map eNod))], vi n] (vi (weightI p n)) := by
  refine pfun_of Tryd.func11 rfl (by decide) Tryd.ntmps11 Tryd.results11 (by simp) rfl rfl ?_
  cases hs : shapeI p with
  | false =>
    have e1 : (!shapeI p) = true := by rw [hs]; rfl
    repeat' first
      | refine Z1 ?_ | refine Z2 ?_ | refine Z3 ?_ | refine Z4 ?_ | refine Z5 ?_ | refine Z6 ?_ | refine Z7 ?_ | refine Z8 ?_ | refine Z9 ?_ | refine Za (fun hc => ?_) (fun hc => ?_) | refine Zb (fun hc => ?_) (fun hc => ?_)
      | refine Zc (shape_ok p hw) ?_ | refine Zd ?_ | refine Ze ?_ | refine Zf ?_ | refine Zg ?_ | refine Zh ?_ | refine Zi ?_ | refine Zj ?_ | refine Zk ?_ | refine Zl ?_ | refine Zm ?_ | refine Zn (fun hc => ?_) (fun hc => ?_)
      | refine Zo ?_ | refine ok_seq ?_ | refine ok_reg ?_ | refine Zp ?_ | refine Zq ?_ | refine Zr (fun hc => ?_) (fun hc => ?_) | refine ok_block ?_ | refine ok_exit ?_ | refine ok_skip ?_ | refine ok_ret ?_ | refine x_normal_then ?_
      | refine x_exit_here ?_ | refine Zs ?_ | refine Zv ?_ | refine x_ret_then ?_ | refine x_ret_block ?_ | refine x_normal_block ?_ | refine Zt ?_ | refine Zu ?_
    exact ret_vi (by simp [weightI, hs])
  | true =>
    have e1 : (!shapeI p) = false := by rw [hs]; rfl
    by_cases h0 : n < 0
    · have e2 : decide (n < 0) = true := decide_eq_true h0
      repeat' first
        | refine Z1 ?_ | refine Z2 ?_ | refine Z3 ?_ | refine Z4 ?_ | refine Z5 ?_ | refine Z6 ?_ | refine Z7 ?_ | refine Z8 ?_ | refine Z9 ?_ | refine Za (fun hc => ?_) (fun hc => ?_) | refine Zb (fun hc => ?_) (fun hc => ?_)
        | refine Zc (shape_ok p hw) ?_ | refine Zd ?_ | refine Ze ?_ | refine Zf ?_ | refine Zg ?_ | refine Zh ?_ | refine Zi ?_ | refine Zj ?_ | refine Zk ?_ | refine Zl ?_ | refine Zm ?_ | refine Zn (fun hc => ?_) (fun hc => ?_)
        | refine Zo ?_ | refine ok_seq ?_ | refine ok_reg ?_ | refine Zp ?_ | refine Zq ?_ | refine Zr (fun hc => ?_) (fun hc => ?_) | refine ok_block ?_ | refine ok_exit ?_ | refine ok_skip ?_ | refine ok_ret ?_ | refine x_normal_then ?_
        | refine x_exit_here ?_ | refine Zs ?_ | refine Zv ?_ | refine x_ret_then ?_ | refine x_ret_block ?_ | refine x_normal_block ?_ | refine Zt ?_ | refine Zu ?_
      exact ret_vi (by simp [weightI, h0])
    · have e2 : decide (n < 0) = false := decide_eq_false h0
      by_cases h1 : (p.length : Int) ≤ n
      · have e3 : decide ((p.length : Int) ≤ n) = true := decide_eq_true h1
        repeat' first
          | refine Z1 ?_ | refine Z2 ?_ | refine Z3 ?_ | refine Z4 ?_ | refine Z5 ?_ | refine Z6 ?_ | refine Z7 ?_ | refine Z8 ?_ | refine Z9 ?_ | refine Za (fun hc => ?_) (fun hc => ?_) | refine Zb (fun hc => ?_) (fun hc => ?_)
          | refine Zc (shape_ok p hw) ?_ | refine Zd ?_ | refine Ze ?_ | refine Zf ?_ | refine Zg ?_ | refine Zh ?_ | refine Zi ?_ | refine Zj ?_ | refine Zk ?_ | refine Zl ?_ | refine Zm ?_ | refine Zn (fun hc => ?_) (fun hc => ?_)
          | refine Zo ?_ | refine ok_seq ?_ | refine ok_reg ?_ | refine Zp ?_ | refine Zq ?_ | refine Zr (fun hc => ?_) (fun hc => ?_) | refine ok_block ?_ | refine ok_exit ?_ | refine ok_skip ?_ | refine ok_ret ?_ | refine x_normal_then ?_
          | refine x_exit_here ?_ | refine Zs ?_ | refine Zv ?_ | refine x_ret_then ?_ | refine x_ret_block ?_ | refine x_normal_block ?_ | refine Zt ?_ | refine Zu ?_
        exact ret_vi (by simp [weightI, h1])
      · have e3 : decide ((p.length : Int) ≤ n) = false := decide_eq_false h1
        obtain ⟨k, rfl⟩ := Int.eq_ofNat_of_zero_le (by omega : 0 ≤ n)
        obtain ⟨v, hv⟩ : ∃ v, (wsI p)[k]? = some v := ⟨(wsI p)[k]'(by rw [wsI_length]; omega), List.getElem?_eq_getElem _⟩
        repeat' first
          | refine Z1 ?_ | refine Z2 ?_ | refine Z3 ?_ | refine Z4 ?_ | refine Z5 ?_ | refine Z6 ?_ | refine Z7 ?_ | refine Z8 ?_ | refine Z9 ?_ | refine Za (fun hc => ?_) (fun hc => ?_) | refine Zb (fun hc => ?_) (fun hc => ?_)
          | refine Zc (shape_ok p hw) ?_ | refine Zc (weights_ok p hw) ?_ | refine Zd ?_ | refine Ze ?_ | refine Zf ?_ | refine Zg ?_ | refine Zh ?_ | refine Zi ?_ | refine Zj ?_ | refine Zk ?_ | refine Zl ?_ | refine Zm ?_
          | refine Zn (fun hc => ?_) (fun hc => ?_) | refine Zo ?_ | refine ok_seq ?_ | refine ok_reg ?_ | refine Zp ?_ | refine Zq ?_ | refine Zr (fun hc => ?_) (fun hc => ?_) | refine ok_block ?_ | refine ok_exit ?_ | refine ok_skip ?_
          | refine ok_ret ?_ | refine x_normal_then ?_ | refine x_exit_here ?_ | refine Zs ?_ | refine Zv ?_ | refine x_ret_then ?_ | refine x_ret_block ?_ | refine x_normal_block ?_ | refine Zt ?_ | refine Zu ?_
        exact ret_vi (by simp [weightI, hs, h0, h1, hv])
theorem sweight_ok (p : List Nod) (n : Int) (hw : wL wNod p ≤ 1048576) : PFun X 10 [.agg [.d (.im (p.map eNod))], vi n] (vi (weightI p n)) := by
  have hes := shape_eq p
  refine pfun_of Tryd.func10 rfl (by decide) Tryd.ntmps10 Tryd.results10 (by simp) rfl rfl ?_
  cases hs : shapeI p with
  | false =>
    have e1 : (!shapeS p) = true := by rw [← hes, hs]; rfl
    repeat' first
      | refine Z1 ?_ | refine Z2 ?_ | refine Z3 ?_ | refine Z4 ?_ | refine Z5 ?_ | refine Z6 ?_ | refine Z7 ?_ | refine Z8 ?_ | refine Z9 ?_ | refine Za (fun hc => ?_) (fun hc => ?_) | refine Zb (fun hc => ?_) (fun hc => ?_)
      | refine Zc (sshape_ok p hw) ?_ | refine Zd ?_ | refine Ze ?_ | refine Zf ?_ | refine Zg ?_ | refine Zh ?_ | refine Zi ?_ | refine Zj ?_ | refine Zk ?_ | refine Zl ?_ | refine Zm ?_ | refine Zn (fun hc => ?_) (fun hc => ?_)
      | refine Zo ?_ | refine ok_seq ?_ | refine ok_reg ?_ | refine Zp ?_ | refine Zq ?_ | refine Zr (fun hc => ?_) (fun hc => ?_) | refine ok_block ?_ | refine ok_exit ?_ | refine ok_skip ?_ | refine ok_ret ?_ | refine x_normal_then ?_
      | refine x_exit_here ?_ | refine Zs ?_ | refine Zv ?_ | refine x_ret_then ?_ | refine x_ret_block ?_ | refine x_normal_block ?_ | refine Zt ?_ | refine Zu ?_
    exact ret_vi (by simp [weightI, hs])
  | true =>
    have e1 : (!shapeS p) = false := by rw [← hes, hs]; rfl
    by_cases h0 : n < 0
    · have e2 : decide (n < 0) = true := decide_eq_true h0
      repeat' first
        | refine Z1 ?_ | refine Z2 ?_ | refine Z3 ?_ | refine Z4 ?_ | refine Z5 ?_ | refine Z6 ?_ | refine Z7 ?_ | refine Z8 ?_ | refine Z9 ?_ | refine Za (fun hc => ?_) (fun hc => ?_) | refine Zb (fun hc => ?_) (fun hc => ?_)
        | refine Zc (sshape_ok p hw) ?_ | refine Zd ?_ | refine Ze ?_ | refine Zf ?_ | refine Zg ?_ | refine Zh ?_ | refine Zi ?_ | refine Zj ?_ | refine Zk ?_ | refine Zl ?_ | refine Zm ?_ | refine Zn (fun hc => ?_) (fun hc => ?_)
        | refine Zo ?_ | refine ok_seq ?_ | refine ok_reg ?_ | refine Zp ?_ | refine Zq ?_ | refine Zr (fun hc => ?_) (fun hc => ?_) | refine ok_block ?_ | refine ok_exit ?_ | refine ok_skip ?_ | refine ok_ret ?_ | refine x_normal_then ?_
        | refine x_exit_here ?_ | refine Zs ?_ | refine Zv ?_ | refine x_ret_then ?_ | refine x_ret_block ?_ | refine x_normal_block ?_ | refine Zt ?_ | refine Zu ?_
      exact ret_vi (by simp [weightI, h0])
    · have e2 : decide (n < 0) = false := decide_eq_false h0
      by_cases h1 : (p.length : Int) ≤ n
      · have e3 : decide ((p.length : Int) ≤ n) = true := decide_eq_true h1
        repeat' first
          | refine Z1 ?_ | refine Z2 ?_ | refine Z3 ?_ | refine Z4 ?_ | refine Z5 ?_ | refine Z6 ?_ | refine Z7 ?_ | refine Z8 ?_ | refine Z9 ?_ | refine Za (fun hc => ?_) (fun hc => ?_) | refine Zb (fun hc => ?_) (fun hc => ?_)
          | refine Zc (sshape_ok p hw) ?_ | refine Zd ?_ | refine Ze ?_ | refine Zf ?_ | refine Zg ?_ | refine Zh ?_ | refine Zi ?_ | refine Zj ?_ | refine Zk ?_ | refine Zl ?_ | refine Zm ?_ | refine Zn (fun hc => ?_) (fun hc => ?_)
          | refine Zo ?_ | refine ok_seq ?_ | refine ok_reg ?_ | refine Zp ?_ | refine Zq ?_ | refine Zr (fun hc => ?_) (fun hc => ?_) | refine ok_block ?_ | refine ok_exit ?_ | refine ok_skip ?_ | refine ok_ret ?_ | refine x_normal_then ?_
          | refine x_exit_here ?_ | refine Zs ?_ | refine Zv ?_ | refine x_ret_then ?_ | refine x_ret_block ?_ | refine x_normal_block ?_ | refine Zt ?_ | refine Zu ?_
        exact ret_vi (by simp [weightI, h1])
      · have e3 : decide ((p.length : Int) ≤ n) = false := decide_eq_false h1
        obtain ⟨k, rfl⟩ := Int.eq_ofNat_of_zero_le (by omega : 0 ≤ n)
        have hwe := ws_eq p hs
        obtain ⟨v, hv⟩ : ∃ v, (wsS p)[k]? = some v := ⟨(wsS p)[k]'(by rw [hwe, wsI_length]; omega), List.getElem?_eq_getElem _⟩
        repeat' first
          | refine Z1 ?_ | refine Z2 ?_ | refine Z3 ?_ | refine Z4 ?_ | refine Z5 ?_ | refine Z6 ?_ | refine Z7 ?_ | refine Z8 ?_ | refine Z9 ?_ | refine Za (fun hc => ?_) (fun hc => ?_) | refine Zb (fun hc => ?_) (fun hc => ?_)
          | refine Zc (sshape_ok p hw) ?_ | refine Zc (sweights_ok p hw) ?_ | refine Zd ?_ | refine Ze ?_ | refine Zf ?_ | refine Zg ?_ | refine Zh ?_ | refine Zi ?_ | refine Zj ?_ | refine Zk ?_ | refine Zl ?_ | refine Zm ?_
          | refine Zn (fun hc => ?_) (fun hc => ?_) | refine Zo ?_ | refine ok_seq ?_ | refine ok_reg ?_ | refine Zp ?_ | refine Zq ?_ | refine Zr (fun hc => ?_) (fun hc => ?_) | refine ok_block ?_ | refine ok_exit ?_ | refine ok_skip ?_
          | refine ok_ret ?_ | refine x_normal_then ?_ | refine x_exit_here ?_ | refine Zs ?_ | refine Zv ?_ | refine x_ret_then ?_ | refine x_ret_block ?_ | refine x_normal_block ?_ | refine Zt ?_ | refine Zu ?_
        exact ret_vi (by rw [hwe] at hv; simp [weightI, hs, h0, h1, hv])
theorem law_weight (p : List Nod) (n : Int) (hd : dL dNod p) : PFun X 4 [.agg [.d (.im (p.map eNod))], vi n] (vb true) := by
  have ht : (!true) = false := rfl
  refine pfun_of Tryd.func4 rfl (by decide) Tryd.ntmps4 Tryd.results4 (by simp) rfl rfl ?_
  by_cases hn : subI 1048576 (wL wNod p) < 0
  · have e1 : decide (subI 1048576 (wL wNod p) < 0) = true := decide_eq_true hn
    repeat' first
      | refine Z1 ?_ | refine Z2 ?_ | refine Z3 ?_ | refine Z4 ?_ | refine Z5 ?_ | refine Z6 ?_ | refine Z7 ?_ | refine Z8 ?_ | refine Z9 ?_ | refine Za (fun hc => ?_) (fun hc => ?_) | refine Zb (fun hc => ?_) (fun hc => ?_)
      | refine Zc (szProgram_ok p 1048576 (by omega) (by omega) hd) ?_ | refine Zd ?_ | refine Ze ?_ | refine Zf ?_ | refine Zg ?_ | refine Zh ?_ | refine Zi ?_ | refine Zj ?_ | refine Zk ?_ | refine Zl ?_ | refine Zm ?_
      | refine Zn (fun hc => ?_) (fun hc => ?_) | refine Zo ?_ | refine ok_seq ?_ | refine ok_reg ?_ | refine Zp ?_ | refine Zq ?_ | refine Zr (fun hc => ?_) (fun hc => ?_) | refine ok_block ?_ | refine ok_exit ?_ | refine ok_skip ?_
      | refine ok_ret ?_ | refine x_normal_then ?_ | refine x_exit_here ?_ | refine Zs ?_ | refine Zv ?_ | refine x_ret_then ?_ | refine x_ret_block ?_ | refine x_normal_block ?_ | refine Zt ?_ | refine Zu ?_
    rfl
  · have e1 : decide (subI 1048576 (wL wNod p) < 0) = false := decide_eq_false hn
    obtain ⟨h1, h2⟩ := subI_pos hn (by omega)
    have hw : wL wNod p ≤ 1048576 := by omega
    have e2 : decide (weightI p n ≠ weightI p n) = false := decide_eq_false (fun h => h rfl)
    repeat' first
      | refine Z1 ?_ | refine Z2 ?_ | refine Z3 ?_ | refine Z4 ?_ | refine Z5 ?_ | refine Z6 ?_ | refine Z7 ?_ | refine Z8 ?_ | refine Z9 ?_ | refine Za (fun hc => ?_) (fun hc => ?_) | refine Zb (fun hc => ?_) (fun hc => ?_)
      | refine Zc (szProgram_ok p 1048576 (by omega) (by omega) hd) ?_ | refine Zc (toProgram_ok p hw) ?_ | refine Zc (weight_ok p n hw) ?_ | refine Zc (sweight_ok p n hw) ?_ | refine Zc (eqProgram_ok p hw) ?_ | refine Zd ?_ | refine Ze ?_
      | refine Zf ?_ | refine Zg ?_ | refine Zh ?_ | refine Zi ?_ | refine Zj ?_ | refine Zk ?_ | refine Zl ?_ | refine Zm ?_ | refine Zn (fun hc => ?_) (fun hc => ?_) | refine Zw ?_ | refine Zx ?_ | refine Zy ?_
      | refine Zz (Zc (szProgram_ok p 1048576 (by omega) (by omega) hd) ⟨rfl, rfl⟩) ?_ | refine Zz (Zc (toProgram_ok p hw) ⟨rfl, rfl⟩) ?_ | refine Zz (Zc (weight_ok p n hw) ⟨rfl, rfl⟩) ?_ | refine Zz (Zc (sweight_ok p n hw) ⟨rfl, rfl⟩) ?_
      | refine Zz (Zc (eqProgram_ok p hw) ⟨rfl, rfl⟩) ?_ | refine Zz (Zd ⟨rfl, rfl⟩) ?_ | refine Zz (Ze ⟨rfl, rfl⟩) ?_ | refine Zz (Zf ⟨rfl, rfl⟩) ?_ | refine Zz (Zg ⟨rfl, rfl⟩) ?_ | refine Zz (Zh ⟨rfl, rfl⟩) ?_
      | refine Zz (Zi ⟨rfl, rfl⟩) ?_ | refine Zz (Zj ⟨rfl, rfl⟩) ?_ | refine Zz (Zk ⟨rfl, rfl⟩) ?_ | refine Zz (Zl ⟨rfl, rfl⟩) ?_ | refine Zz (Zm ⟨rfl, rfl⟩) ?_ | refine Zo ?_ | refine ok_seq ?_ | refine ok_reg ?_
      | refine ok_draw X_mixed (by decide +kernel) ?_ | refine Zp ?_ | refine Zq ?_ | refine Zr (fun hc => ?_) (fun hc => ?_) | refine ok_block ?_ | refine ok_exit ?_ | refine ok_skip ?_ | refine ok_ret ?_ | refine x_normal_then ?_
      | refine x_exit_here ?_ | refine Zs ?_ | refine Zv ?_ | refine x_ret_then ?_ | refine x_ret_block ?_ | refine x_normal_block ?_ | refine Zt ?_ | refine Zu ?_
    rfl
end Go.Pm
