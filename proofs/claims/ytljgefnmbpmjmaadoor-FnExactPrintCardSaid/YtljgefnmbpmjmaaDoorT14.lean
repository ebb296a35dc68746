/- Codes that are in order: their tree, its text in the program and in the specification. -/
import Derived.Test.YtljgefnmbpmjmaaDoorT11
import Derived.Test.YtljgefnmbpmjmaaDoorT12
import Derived.Test.YtljgefnmbpmjmaaDoorT13
set_option linter.unusedVariables false
set_option linter.unusedSimpArgs false
namespace Go.Pm
open Go.Proofs
theorem item_in {x : Itm} (h : itemI x = true) : okV x := by
  unfold itemI at h
  unfold okV
  split at h
  · cases h
  split at h
  · split at h
    · cases h
    · omega
  split at h
  · split at h
    · cases h
    · omega
  split at h
  · split at h
    · cases h
    · omega
  split at h
  · cases h
  · omega
/-- What is known of a code that is in order. -/
def Good (c : List Itm) (t : Tm) : Prop := runT 0 [] c = [t] ∧ wfT t ∧ flat t = c ∧ postI 0 c = true ∧ c.length ≤ 3000 ∧ ∀ x ∈ flat t, okV x ∧ x.name.size ≤ 1048576
theorem expr_tree {c : List Itm} (h : exprI c = true) (hw : wL wItm c ≤ 1048576) : ∃ t, Good c t := by
  unfold exprI at h
  split at h
  · cases h
  rename_i hb
  rw [Bool.and_eq_true] at h
  have hi : ∀ x ∈ c, okV x := fun x hx => item_in (List.all_eq_true.1 h.1 x hx)
  obtain ⟨t, h1, h2, h3⟩ := run_flat c 0 [] (fun x hx => by have := (hi x hx).1; omega) trivial h.2
  have h3 : flat t = c := by rw [h3]; rfl
  refine ⟨t, h1, h2, h3, h.2, by omega, fun x hx => ?_⟩
  rw [h3] at hx
  refine ⟨hi x hx, ?_⟩
  have := wL_mem (w := wItm) hx
  have e : wItm x = x.name.size := rfl
  simp only [wL] at hw
  omega
theorem good_tree {c : List Itm} {t : Tm} (g : Good c t) : PFun X 22 [.d (.im (c.map eItm))] (.d (.ip (eTm t) 0)) := tree_ok c t (by have := g.2.2.2.2.1; omega) g.2.2.2.1 g.1
theorem good_print {c : List Itm} {t : Tm} (g : Good c t) : Prt t := print_tree _ t (Nat.le_refl _) g.2.1 fun x hx => (g.2.2.2.2.2 x hx).1
theorem good_text {c : List Itm} {t : Tm} (g : Good c t) (hs : (textT t).size ≤ 140737488355328) : PFun X 16 [.d (.im (c.map eItm)), vi c.length] (vs (textT t)) :=
  stext_ok c (by have := g.2.2.2.2.1; omega) _ t (Nat.le_refl _) g.2.1 g.2.2.2.2.2 [] [] (by rw [g.2.2.1]; simp) _ (by rw [g.2.2.1]; simp) hs
theorem decls_ok {σ : St} {i r h : Nat} {t : ByteArray} (ho : σ.obj i = some (.var [.ref i 0, .sl r h 0 t.size])) (hr : σ.obj r = some (.row h 5 1 (byteRows t))) (l : List Vr) (hl : l.length ≤ 1048576) (hc : ∀ v ∈ l, v.clock.length ≤ 1048576 ∧ (v.type = 1 ∨ v.type = 2)) (hs : (t ++ joinT (B [59, 32]) 0 (l.map declT)).size ≤ 140737488355328) :
    AFun X 19 [.d (.im (l.map eVr)), .ref i 0] σ fun E σ' => E = .ret (.tup []) ∧ σ' = wrUsed σ i r (t ++ joinT (B [59, 32]) 0 (l.map declT)) :=
  bd_lift (decls_s l t hl hc hs) ho hr rfl rfl
/-- The text of a size law: a tree's text is no longer than its weight allows. -/
theorem otFind_size (op : Int) : (otFind op).size ≤ 8 := by
  have h : ∀ y ∈ otBytes, y.2.length ≤ 8 := by decide
  unfold otFind
  cases hf : otS.find? fun y => decide (y.1 = op) with
  | none => exact Nat.zero_le _
  | some y =>
    obtain ⟨z, hz, rfl⟩ := List.mem_map.1 (List.mem_of_find?_eq_some hf)
    exact h z hz
end Go.Pm
/- The program's Print. -/
set_option linter.unusedVariables false
set_option linter.unusedSimpArgs false
namespace Go.Pm
attribute [local irreducible] AR Ok inBlock andThen endQ aoper
set_option maxHeartbeats 8000000
open Go.Proofs
def treeI (c : List Itm) : Tm := (runT 0 [] c).headD (.mk ⟨0, 0, ⟨#[]⟩⟩ 0 [])
def codeX (c : List Itm) : ByteArray := textT (treeI c)
theorem good_I {c : List Itm} {t : Tm} (g : Good c t) : treeI c = t := by unfold treeI; rw [g.1]; rfl
def declsX (l : List Vr) : ByteArray := joinT (B [59, 32]) 0 (l.map declT)
def eqH (e : Eqn) : ByteArray := B [32, 32] ++ joinT (B [44, 32]) 0 e.lhs ++ B [32, 61, 32]
def eqBody (e : Eqn) : ByteArray := if e.call = ⟨#[]⟩ then codeX e.code else (e.call ++ B [40]) ++ (joinT (B [44, 32]) 0 (e.args.map codeX) ++ B [41])
def eqX (e : Eqn) : ByteArray := eqH e ++ (eqBody e ++ B [59, 10])
def nodH (n : Nod) : ByteArray := B [110, 111, 100, 101, 32] ++ n.name ++ B [40]
def varX (n : Nod) : ByteArray := if 0 < n.vars.length then B [118, 97, 114, 32] ++ (declsX n.vars ++ B [59, 10]) else B []
def nodX (n : Nod) : ByteArray := nodH n ++ (declsX n.ins ++ (B [41, 32, 114, 101, 116, 117, 114, 110, 115, 32, 40] ++ (declsX n.outs ++ (B [41, 10] ++ (varX n ++ (B [108, 101, 116, 10] ++ (catT eqX n.eqs ++ B [116, 101, 108, 10])))))))
def progX (p : List Nod) : ByteArray := catT nodX p
/-- What the shape gives. -/
def okE (e : Eqn) : Prop := e.lhs ≠ [] ∧ e.lhs.length ≤ 500 ∧ (e.call = ⟨#[]⟩ → ∃ t, Good e.code t) ∧ (e.call ≠ ⟨#[]⟩ → e.args.length ≤ 500 ∧ ∀ a ∈ e.args, ∃ t, Good a t)
def okD (l : List Vr) : Prop := l.length ≤ 1048576 ∧ ∀ v ∈ l, v.clock.length ≤ 1048576 ∧ (v.type = 1 ∨ v.type = 2)
def okN (n : Nod) : Prop := okD n.ins ∧ okD n.outs ∧ okD n.vars ∧ n.eqs.length ≤ 500 ∧ ∀ e ∈ n.eqs, okE e
theorem eq_in {e : Eqn} (h : eqI e = true) (hw : wEqn e ≤ 1048576) : okE e := by
  unfold eqI at h
  by_cases q1 : (e.lhs.length : Int) < 1 ∨ 500 < (e.lhs.length : Int) ∨ 500 < (e.args.length : Int)
  · rw [if_pos q1] at h; cases h
  rw [if_neg q1] at h
  by_cases q2 : (!e.lhs.all nameI) = true
  · rw [if_pos q2] at h; cases h
  rw [if_neg q2] at h
  refine ⟨fun he => q1 (.inl (by rw [he]; decide)), by omega, fun hc => ?_, fun hc => ⟨by omega, fun a ha => ?_⟩⟩
  · rw [if_pos hc] at h
    by_cases q3 : (e.lhs.length : Int) ≠ 1 ∨ 0 < (e.args.length : Int) ∨ (!exprI e.code) = true
    · rw [if_pos q3] at h; cases h
    have he : exprI e.code = true := by
      cases hx : exprI e.code with
      | true => rfl
      | false => exact absurd (.inr (.inr (by rw [hx]; rfl))) q3
    exact expr_tree he (by simp only [wEqn] at hw; omega)
  · rw [if_neg hc] at h
    by_cases q3 : (!nameI e.call) = true ∨ 0 < (e.code.length : Int)
    · rw [if_pos q3] at h; cases h
    rw [if_neg q3] at h
    have hl := wL_mem (w := wL wItm) ha
    have e2 : wL (wL wItm) e.args = e.args.length + (e.args.map (wL wItm)).sum := rfl
    exact expr_tree (List.all_eq_true.1 h a ha) (by simp only [wEqn] at hw; omega)
theorem v_in {m : Nat} {v : Vr} (h : vI m v = true) : v.clock.length ≤ 1048576 ∧ (v.type = 1 ∨ v.type = 2) := by
  unfold vI at h
  split at h
  · cases h
  rename_i q
  simp only [not_or, not_and] at q
  omega
theorem nod_in {n : Nod} (h : nodI n = true) (hw : wNod n ≤ 1048576) : okN n := by
  unfold nodI at h
  split at h
  · cases h
  rename_i q
  simp only [not_or] at q
  simp only [Bool.and_eq_true, grpI] at h
  obtain ⟨⟨h1, h2, h3, _⟩, h4⟩ := h
  refine ⟨⟨by omega, fun v hv => v_in (List.all_eq_true.1 h1 v hv)⟩, ⟨by omega, fun v hv => v_in (List.all_eq_true.1 h2 v hv)⟩, ⟨by omega, fun v hv => v_in (List.all_eq_true.1 h3 v hv)⟩, by omega, fun e he => eq_in (List.all_eq_true.1 h4 e he) ?_⟩
  have := wL_mem (w := wEqn) he
  have e2 : wL wEqn n.eqs = n.eqs.length + (n.eqs.map wEqn).sum := rfl
  simp only [wNod] at hw
  omega
end Go.Pm
/- The program's Print. -/
set_option linter.unusedVariables false
set_option linter.unusedSimpArgs false
namespace Go.Pm
attribute [local irreducible] AR Ok inBlock andThen endQ aoper
set_option maxHeartbeats 8000000
open Go.Proofs
abbrev Px := Option (Nat × ByteArray)
def pk : Px → Nat
  | none => 0
  | some y => y.1
def pt : Px → ByteArray
  | none => B []
  | some y => y.2
def ob1 : Px → Option AO
  | none => some bdFresh
  | some y => some (.var [.ref 1 0, .sl 2 3 0 y.2.size])
def ob2 : Px → Option AO
  | none => none
  | some y => some (.row 3 5 1 (byteRows y.2))
theorem write_any {σ : St} {x : Px} (h1 : σ.obj 1 = ob1 x) (h2 : σ.obj 2 = ob2 x) (hn : 2 < σ.next) (s : ByteArray) (hs : (pt x ++ s).size ≤ 140737488355328) :
    AFun X 20 [.ref 1 0, vs s] σ fun E σ' => E = .ret (.tup [vi s.size, noErr]) ∧ σ' = wrUsed σ 1 2 (pt x ++ s) := by
  cases x with
  | none =>
    have e : pt none ++ s = s := nil_ba s
    rw [e] at hs ⊢
    exact write_first_ok h1 h2 hn s hs
  | some y => exact write_ok h1 h2 s hs
theorem ip_s (p : List Nod) (hw : wL wNod p ≤ 1048576) (hne : 0 < p.length) (hsh : shapeI p = true) (hok : ∀ n ∈ p, okN n) (hf : (progX p).size ≤ 140737488355328) : PFun X 8 [.agg [.d (.im (p.map eNod))]] (vs (progX p)) := by
  have hpl : p.length ≤ 1048576 := by simp only [wL] at hw; omega
  have hsk := shape_ok p hw
  rw [hsh] at hsk
  have ht0 : (!true) = false := rfl
  refine pfun_of Tryd.func8 rfl (by decide) Tryd.ntmps8 Tryd.results8 (by simp) rfl rfl ?_
  repeat' first
    | refine Ug ?_ | refine Z1 ?_ | refine Z2 ?_ | refine Z5 ?_ | refine Yq ?_ | refine Zc (hsk) ?_ | refine Zd ?_ | refine Zo ?_ | refine ok_seq ?_ | refine Zq ?_ | refine ok_block ?_ | refine ok_skip ?_ | refine x_normal_then ?_
  refine ok_forR (ι := Px) (fun x => envL [(1, .ref 0 0), (3, .ref 1 0), (4, .fn 19 [.ref 1 0]), (16, .d (.im (p.map eNod))), (17, vi p.length), (18, vi (pk x))]) (fun x => stL [some (.var [.d (.im (p.map eNod))]), ob1 x, ob2 x, none]) (fun x => pk x ≤ p.length ∧ (x = none ∨ 0 < pk x) ∧ pt x ++ catT nodX (p.drop (pk x)) = progX p) (fun x => p.length - pk x) none ⟨Nat.zero_le _, .inl rfl, nil_ba _⟩ Turn.refl (lowR_mk [] rfl rfl rfl ⟨⟨rfl, rfl⟩, ⟨rfl, rfl⟩, ⟨rfl, rfl⟩, ⟨rfl, rfl⟩, ⟨rfl, rfl⟩, ⟨rfl, rfl⟩, trivial⟩ ⟨⟨rfl, rfl⟩, ⟨rfl, trivial⟩, trivial⟩) ?_
  intro x ⟨i1, i2, i3⟩
  by_cases hk : pk x < p.length
  rotate_left
  · have ek : decide ((pk x : Int) < (p.length : Int)) = false := decide_eq_false (by omega)
    cases x with
    | none => exact absurd hne (by simp only [pk] at hk; omega)
    | some y =>
      obtain ⟨k, u⟩ := y
      simp only [pk, pt] at i1 i3 hk
      have hke : p.drop k = [] := List.drop_eq_nil_of_le (by omega)
      rw [hke] at i3
      simp only [catT, ba_nil] at i3
      subst i3
      have h0 : (progX p).size ≠ 0 := by
        obtain ⟨c, r, hcr⟩ : ∃ c r, p = c :: r := by cases p with | nil => simp at hne | cons c r => exact ⟨c, r, rfl⟩
        unfold progX
        rw [hcr]
        simp only [catT, nodX, nodH, ByteArray.size_append]
        have : (B [110, 111, 100, 101, 32]).size = 5 := rfl
        omega
      repeat' first
        | refine Z1 ?_ | refine Z2 ?_ | refine Z5 ?_ | refine Ym (text_ok (i := 1) (r := 2) (h := 3) (s := progX p) rfl rfl rfl h0) ?_ | refine Zo ?_ | refine ok_seq ?_ | refine Zq ?_ | refine ok_exit ?_ | refine ok_ret ?_
        | refine x_normal_then ?_ | refine x_exit_here ?_ | refine Zv ?_ | refine Zt ?_
      rfl
  obtain ⟨n, hx⟩ : ∃ n, p[pk x]? = some n := ⟨p[pk x], List.getElem?_eq_getElem hk⟩
  obtain ⟨hd, _⟩ := drop_some hx
  have ek : decide ((pk x : Int) < (p.length : Int)) = true := decide_eq_true (by omega)
  obtain ⟨g1, g2, g3, g4, g5⟩ := hok n (List.mem_of_getElem? hx)
  rw [hd] at i3
  simp only [catT, nodX, ba_assoc] at i3
  generalize hfull : progX p = full at i3 hf
  generalize hM : catT nodX (p.drop (pk x + 1)) = M at i3
  have z1 := sz_of i3 hf
  have i3 := nx_of i3
  have z2 := sz_of i3 hf
  have i3 := nx_of i3
  have z3 := sz_of i3 hf
  have i3 := nx_of i3
  have z4 := sz_of i3 hf
  have i3 := nx_of i3
  have z5 := sz_of i3 hf
  have i3 := nx_of i3
  have q1 := z1
  unfold nodH at q1
  simp only [ByteArray.size_append] at q1
  unfold varX at i3
  by_cases hv : 0 < n.vars.length
  · have ev : decide (0 < (n.vars.length : Int)) = true := decide_eq_true (by omega)
    obtain ⟨v0, hv0⟩ : ∃ v0, v0 = pt x ++ nodH n ++ declsX n.ins ++ B [41, 32, 114, 101, 116, 117, 114, 110, 115, 32, 40] ++ declsX n.outs ++ B [41, 10] := ⟨_, rfl⟩
    rw [← hv0] at i3
    simp only [if_pos hv, ba_assoc] at i3
    have z6 := sz_of i3 hf
    have i3 := nx_of i3
    have z7 := sz_of i3 hf
    have i3 := nx_of i3
    have z8 := sz_of i3 hf
    have i3 := nx_of i3
    have z9 := sz_of i3 hf
    have i3 := nx_of i3
    subst hv0
    repeat' first
      | refine Z1 ?_ | refine Z2 ?_ | refine Z5 ?_ | refine Ul (a := B [110, 111, 100, 101, 32]) (b := n.name) (hb := by rw [ByteArray.size_append]; omega) ?_
      | refine Ul (a := B [110, 111, 100, 101, 32] ++ n.name) (b := B [40]) (hb := by simp only [ByteArray.size_append]; omega) ?_ | refine Ym (write_any (x := x) rfl rfl (by show 2 < 5; omega) (nodH n) z1) ?_
      | refine Yp (decls_ok (i := 1) (r := 2) (h := 5) (t := pt x ++ nodH n) rfl rfl n.ins g1.1 g1.2 z2) ?_
      | refine Ym (write_ok (i := 1) (r := 2) (h := 6) (t := pt x ++ nodH n ++ declsX n.ins) rfl rfl (B [41, 32, 114, 101, 116, 117, 114, 110, 115, 32, 40]) z3) ?_
      | refine Yp (decls_ok (i := 1) (r := 2) (h := 7) (t := pt x ++ nodH n ++ declsX n.ins ++ B [41, 32, 114, 101, 116, 117, 114, 110, 115, 32, 40]) rfl rfl n.outs g2.1 g2.2 z4) ?_
      | refine Ym (write_ok (i := 1) (r := 2) (h := 8) (t := pt x ++ nodH n ++ declsX n.ins ++ B [41, 32, 114, 101, 116, 117, 114, 110, 115, 32, 40] ++ declsX n.outs) rfl rfl (B [41, 10]) z5) ?_
      | refine Ym (write_ok (i := 1) (r := 2) (h := 9) (t := pt x ++ nodH n ++ declsX n.ins ++ B [41, 32, 114, 101, 116, 117, 114, 110, 115, 32, 40] ++ declsX n.outs ++ B [41, 10]) rfl rfl (B [118, 97, 114, 32]) z6) ?_
      | refine Yp (decls_ok (i := 1) (r := 2) (h := 10) (t := pt x ++ nodH n ++ declsX n.ins ++ B [41, 32, 114, 101, 116, 117, 114, 110, 115, 32, 40] ++ declsX n.outs ++ B [41, 10] ++ B [118, 97, 114, 32]) rfl rfl n.vars g3.1 g3.2 z7) ?_
      | refine Ym (write_ok (i := 1) (r := 2) (h := 11) (t := pt x ++ nodH n ++ declsX n.ins ++ B [41, 32, 114, 101, 116, 117, 114, 110, 115, 32, 40] ++ declsX n.outs ++ B [41, 10] ++ B [118, 97, 114, 32] ++ declsX n.vars) rfl rfl (B [59, 10]) z8) ?_
      | refine Ym (write_ok (i := 1) (r := 2) (h := 12) (t := pt x ++ nodH n ++ declsX n.ins ++ B [41, 32, 114, 101, 116, 117, 114, 110, 115, 32, 40] ++ declsX n.outs ++ B [41, 10] ++ B [118, 97, 114, 32] ++ declsX n.vars ++ B [59, 10]) rfl rfl (B [108, 101, 116, 10]) z9) ?_
      | refine Zd ?_ | refine Ze ?_ | refine Zo ?_ | refine ok_seq ?_ | refine ok_reg ?_ | refine Zp ?_ | refine ok_block ?_ | refine ok_skip ?_ | refine x_normal_then ?_
    obtain ⟨R1, hR1⟩ : ∃ R1, R1 = B [116, 101, 108, 10] ++ M := ⟨_, rfl⟩
    rw [← hR1] at i3
    refine ok_forR (ι := Nat × ByteArray) (fun x_ => envL [(1, .ref 0 0), (3, .ref 1 0), (4, .fn 19 [.ref 1 0]), (16, .d (.im (p.map eNod))), (17, vi p.length), (18, vi (pk x)), (6, .ref 4 0), (49, .d (.im (n.eqs.map eEqn))), (50, vi n.eqs.length), (51, vi x_.1)]) (fun x_ => stL [some (.var [.d (.im (p.map eNod))]), some (.var [.ref 1 0, .sl 2 14 0 x_.2.size]), some (.row 14 5 1 (byteRows x_.2)), none, some (.var ((eNod n).map .d)), none, none, none, none, none, none, none, none, none, none]) (fun x_ => x_.1 ≤ n.eqs.length ∧ x_.2 ++ (catT eqX (n.eqs.drop x_.1) ++ R1) = full) (fun x_ => n.eqs.length - x_.1) (0, pt x ++ nodH n ++ declsX n.ins ++ B [41, 32, 114, 101, 116, 117, 114, 110, 115, 32, 40] ++ declsX n.outs ++ B [41, 10] ++ B [118, 97, 114, 32] ++ declsX n.vars ++ B [59, 10] ++ B [108, 101, 116, 10]) (⟨Nat.zero_le _, i3⟩) Turn.refl (lowR_mk [(14, 13)] rfl rfl rfl ⟨⟨rfl, rfl⟩, ⟨rfl, rfl⟩, ⟨rfl, rfl⟩, ⟨rfl, rfl⟩, ⟨rfl, rfl⟩, ⟨rfl, rfl⟩, ⟨rfl, rfl⟩, ⟨rfl, rfl⟩, ⟨rfl, rfl⟩, ⟨rfl, rfl⟩, trivial⟩ ⟨⟨rfl, rfl⟩, ⟨rfl, rfl⟩, ⟨renO_row rfl (by first | exact byteRows_ren _ _ | rfl), blt_lt rfl, byteRows_low _ _⟩, ⟨rfl, rfl⟩, trivial⟩) ?_
    clear i3
    rintro ⟨k, u⟩ ⟨j1, j2⟩
    simp only at j1 j2
    by_cases hkl : k < n.eqs.length
    rotate_left
    · have ey : decide ((k : Int) < (n.eqs.length : Int)) = false := decide_eq_false (by omega)
      rw [List.drop_eq_nil_of_le (by omega)] at j2
      simp only [catT, nil_ba] at j2
      rw [hR1] at j2
      have y1 := sz_of j2 hf
      have j2 := nx_of j2
      rw [← hM] at j2
      repeat' first
        | refine Z1 ?_ | refine Z2 ?_ | refine Z3 ?_ | refine Z5 ?_ | refine Ym (write_ok (i := 1) (r := 2) (h := 14) (t := u) rfl rfl (B [116, 101, 108, 10]) y1) ?_ | refine Zf ?_ | refine Zo ?_ | refine ok_seq ?_ | refine ok_reg ?_
        | refine Zq ?_ | refine ok_exit ?_ | refine x_normal_then ?_ | refine x_exit_here ?_ | refine Zv ?_ | refine x_normal_block ?_
      refine ⟨some (pk x + 1, u ++ B [116, 101, 108, 10]), ⟨hk, .inr (Nat.succ_pos _), j2⟩, by show p.length - (pk x + 1) < p.length - pk x; omega, ?_⟩
      exact lowR_mk [(3, 15)] rfl rfl rfl ⟨⟨rfl, rfl⟩, ⟨rfl, rfl⟩, ⟨rfl, rfl⟩, ⟨rfl, rfl⟩, ⟨rfl, rfl⟩, ⟨rfl, rfl⟩, trivial⟩ ⟨⟨rfl, rfl⟩, ⟨rfl, rfl⟩, ⟨renO_row rfl (by first | exact byteRows_ren _ _ | rfl), blt_lt rfl, byteRows_low _ _⟩, trivial⟩
    obtain ⟨y, hy⟩ : ∃ y, n.eqs[k]? = some y := ⟨n.eqs[k], List.getElem?_eq_getElem hkl⟩
    obtain ⟨hd2, hlt2⟩ := drop_some hy
    have ey : decide ((k : Int) < (n.eqs.length : Int)) = true := decide_eq_true (by omega)
    obtain ⟨l1, l2, l3, l4⟩ := g5 y (List.mem_of_getElem? hy)
    rw [hd2] at j2
    simp only [catT, eqX, ba_assoc] at j2
    obtain ⟨R2, hR2⟩ : ∃ R2, R2 = catT eqX (n.eqs.drop (k + 1)) ++ R1 := ⟨_, rfl⟩
    rw [← hR2] at j2
    have y1 := sz_of j2 hf
    have j2 := nx_of j2
    have y2 := y1
    unfold eqH at y2
    simp only [ByteArray.size_append] at y2
    by_cases hc : y.call = ⟨#[]⟩
    · have dc : decide (y.call = ⟨#[]⟩) = true := decide_eq_true hc
      have dc2 : decide (y.call = ByteArray.empty) = true := dc
      obtain ⟨t, gt⟩ := l3 hc
      have hb : eqBody y = textT t := by unfold eqBody codeX; rw [if_pos hc, good_I gt]
      rw [hb] at j2
      have y3 := sz_of j2 hf
      have j2 := nx_of j2
      have y4 := sz_of j2 hf
      have j2 := nx_of j2
      rw [hR2] at j2
      have gp : Prt t := good_print gt
      repeat' first
        | refine Z1 ?_ | refine Z2 ?_ | refine Z3 ?_ | refine Z5 ?_ | refine Zc (sjoin_ok (B [44, 32]) y.lhs l1 (by omega) (by omega)) ?_
        | refine Ul (a := B [32, 32]) (b := joinT (B [44, 32]) 0 y.lhs) (hb := by rw [ByteArray.size_append]; omega) ?_
        | refine Ul (a := B [32, 32] ++ joinT (B [44, 32]) 0 y.lhs) (b := B [32, 61, 32]) (hb := by simp only [ByteArray.size_append]; omega) ?_ | refine Ym (write_ok (i := 1) (r := 2) (h := 14) (t := u) rfl rfl (eqH y) y1) ?_
        | refine Zc (good_tree gt) ?_ | refine Ym (prt_at gp (i := 1) (r := 2) (h := 16) (u := u ++ eqH y) rfl rfl y3) ?_ | refine Ym (write_ok (i := 1) (r := 2) (h := 17) (t := u ++ eqH y ++ textT t) rfl rfl (B [59, 10]) y4) ?_ | refine Ze ?_
        | refine Zf ?_ | refine Zo ?_ | refine ok_seq ?_ | refine ok_reg ?_ | refine Zp ?_ | refine ok_block ?_ | refine ok_skip ?_ | refine x_normal_then ?_ | refine x_normal_block ?_
      exact ⟨(k + 1, u ++ eqH y ++ textT t ++ B [59, 10]), ⟨hlt2, j2⟩, by (try simp only); omega, lowR_mk [(14, 18)] rfl rfl rfl ⟨⟨rfl, rfl⟩, ⟨rfl, rfl⟩, ⟨rfl, rfl⟩, ⟨rfl, rfl⟩, ⟨rfl, rfl⟩, ⟨rfl, rfl⟩, ⟨rfl, rfl⟩, ⟨rfl, rfl⟩, ⟨rfl, rfl⟩, ⟨rfl, rfl⟩, trivial⟩ ⟨⟨rfl, rfl⟩, ⟨rfl, rfl⟩, ⟨renO_row rfl (by first | exact byteRows_ren _ _ | rfl), blt_lt rfl, byteRows_low _ _⟩, ⟨rfl, rfl⟩, trivial⟩⟩
    · have dc : decide (y.call = ⟨#[]⟩) = false := decide_eq_false hc
      have dc2 : decide (y.call = ByteArray.empty) = false := dc
      obtain ⟨a1, a2⟩ := l4 hc
      have hb : eqBody y = (y.call ++ B [40]) ++ (joinT (B [44, 32]) 0 (y.args.map codeX) ++ B [41]) := by unfold eqBody; rw [if_neg hc]
      rw [hb] at j2
      have j2 : u ++ eqH y ++ ((y.call ++ B [40]) ++ (joinT (B [44, 32]) 0 (y.args.map codeX) ++ (B [41] ++ (B [59, 10] ++ R2)))) = full := by rw [← j2]; simp only [ba_assoc]
      have y3 := sz_of j2 hf
      have j2 := nx_of j2
      have y4 := y3
      simp only [ByteArray.size_append] at y4
      obtain ⟨R3, hR3⟩ : ∃ R3, R3 = B [41] ++ (B [59, 10] ++ R2) := ⟨_, rfl⟩
      rw [← hR3] at j2
      repeat' first
        | refine Z1 ?_ | refine Z2 ?_ | refine Z5 ?_ | refine Zc (sjoin_ok (B [44, 32]) y.lhs l1 (by omega) (by omega)) ?_ | refine Ul (a := B [32, 32]) (b := joinT (B [44, 32]) 0 y.lhs) (hb := by rw [ByteArray.size_append]; omega) ?_
        | refine Ul (a := B [32, 32] ++ joinT (B [44, 32]) 0 y.lhs) (b := B [32, 61, 32]) (hb := by simp only [ByteArray.size_append]; omega) ?_ | refine Ym (write_ok (i := 1) (r := 2) (h := 14) (t := u) rfl rfl (eqH y) y1) ?_
        | refine Ul (a := y.call) (b := B [40]) (hb := by rw [ByteArray.size_append]; omega) ?_ | refine Ym (write_ok (i := 1) (r := 2) (h := 16) (t := u ++ eqH y) rfl rfl (y.call ++ B [40]) y3) ?_ | refine Zd ?_ | refine Ze ?_ | refine Zo ?_
        | refine ok_seq ?_ | refine Zp ?_ | refine Zq ?_ | refine ok_block ?_ | refine ok_skip ?_ | refine x_normal_then ?_
      refine ok_forR (ι := Nat × ByteArray) (fun x_ => envL [(1, .ref 0 0), (3, .ref 1 0), (4, .fn 19 [.ref 1 0]), (16, .d (.im (p.map eNod))), (17, vi p.length), (18, vi (pk x)), (6, .ref 4 0), (49, .d (.im (n.eqs.map eEqn))), (50, vi n.eqs.length), (51, vi k), (8, .ref 15 0), (73, .d (.im (y.args.map eItms))), (74, vi y.args.length), (75, vi x_.1)]) (fun x_ => stL [some (.var [.d (.im (p.map eNod))]), some (.var [.ref 1 0, .sl 2 18 0 x_.2.size]), some (.row 18 5 1 (byteRows x_.2)), none, some (.var ((eNod n).map .d)), none, none, none, none, none, none, none, none, none, none, none, none, none, none]) (fun x_ => x_.1 ≤ y.args.length ∧ x_.2 ++ (joinT (B [44, 32]) x_.1 ((y.args.drop x_.1).map codeX) ++ R3) = full) (fun x_ => y.args.length - x_.1) (0, u ++ eqH y ++ (y.call ++ B [40])) (⟨Nat.zero_le _, j2⟩) Turn.refl (lowR_mk [(18, 17)] rfl rfl rfl ⟨⟨rfl, rfl⟩, ⟨rfl, rfl⟩, ⟨rfl, rfl⟩, ⟨rfl, rfl⟩, ⟨rfl, rfl⟩, ⟨rfl, rfl⟩, ⟨rfl, rfl⟩, ⟨rfl, rfl⟩, ⟨rfl, rfl⟩, ⟨rfl, rfl⟩, ⟨rfl, rfl⟩, ⟨rfl, rfl⟩, ⟨rfl, rfl⟩, ⟨rfl, rfl⟩, trivial⟩ ⟨⟨rfl, rfl⟩, ⟨rfl, rfl⟩, ⟨renO_row rfl (by first | exact byteRows_ren _ _ | rfl), blt_lt rfl, byteRows_low _ _⟩, ⟨rfl, rfl⟩, trivial⟩) ?_
      clear j2
      rintro ⟨m, z⟩ ⟨j1, j2⟩
      simp only at j1 j2
      by_cases hml : m < y.args.length
      rotate_left
      · have em : decide ((m : Int) < (y.args.length : Int)) = false := decide_eq_false (by omega)
        rw [List.drop_eq_nil_of_le (by omega)] at j2
        simp only [List.map_nil, joinT, nil_ba] at j2
        rw [hR3] at j2
        have y5 := sz_of j2 hf
        have j2 := nx_of j2
        have y6 := sz_of j2 hf
        have j2 := nx_of j2
        rw [hR2] at j2
        repeat' first
          | refine Z1 ?_ | refine Z2 ?_ | refine Z3 ?_ | refine Z5 ?_ | refine Ym (write_ok (i := 1) (r := 2) (h := 18) (t := z) rfl rfl (B [41]) y5) ?_
          | refine Ym (write_ok (i := 1) (r := 2) (h := 19) (t := z ++ B [41]) rfl rfl (B [59, 10]) y6) ?_ | refine Zf ?_ | refine Zo ?_ | refine ok_seq ?_ | refine ok_reg ?_ | refine Zq ?_ | refine ok_exit ?_ | refine x_normal_then ?_
          | refine x_exit_here ?_ | refine Zv ?_ | refine x_normal_block ?_
        exact ⟨(k + 1, z ++ B [41] ++ B [59, 10]), ⟨hlt2, j2⟩, by (try simp only); omega, lowR_mk [(14, 20)] rfl rfl rfl ⟨⟨rfl, rfl⟩, ⟨rfl, rfl⟩, ⟨rfl, rfl⟩, ⟨rfl, rfl⟩, ⟨rfl, rfl⟩, ⟨rfl, rfl⟩, ⟨rfl, rfl⟩, ⟨rfl, rfl⟩, ⟨rfl, rfl⟩, ⟨rfl, rfl⟩, trivial⟩ ⟨⟨rfl, rfl⟩, ⟨rfl, rfl⟩, ⟨renO_row rfl (by first | exact byteRows_ren _ _ | rfl), blt_lt rfl, byteRows_low _ _⟩, ⟨rfl, rfl⟩, trivial⟩⟩
      obtain ⟨a, ha⟩ : ∃ a, y.args[m]? = some a := ⟨y.args[m], List.getElem?_eq_getElem hml⟩
      obtain ⟨hd3, hlt3⟩ := drop_some ha
      have em : decide ((m : Int) < (y.args.length : Int)) = true := decide_eq_true (by omega)
      obtain ⟨t, gt⟩ := a2 a (List.mem_of_getElem? ha)
      have gp : Prt t := good_print gt
      have hct : codeX a = textT t := by unfold codeX; rw [good_I gt]
      rw [hd3] at j2
      simp only [List.map_cons, joinT, hct, ba_assoc] at j2
      by_cases hm0 : 0 < m
      · have e0 : decide (0 < (m : Int)) = true := decide_eq_true (by omega)
        rw [if_pos hm0] at j2
        have y5 := sz_of j2 hf
        have j2 := nx_of j2
        have y6 := sz_of j2 hf
        repeat' first
          | refine Z1 ?_ | refine Z2 ?_ | refine Z3 ?_ | refine Z5 ?_ | refine Ym (write_ok (i := 1) (r := 2) (h := 18) (t := z) rfl rfl (B [44, 32]) y5) ?_ | refine Zc (good_tree gt) ?_
          | refine Ym (prt_at gp (i := 1) (r := 2) (h := 19) (u := z ++ B [44, 32]) rfl rfl y6) ?_ | refine Ze ?_ | refine Zf ?_ | refine Zo ?_ | refine ok_seq ?_ | refine ok_reg ?_ | refine Zp ?_ | refine ok_block ?_ | refine ok_skip ?_
          | refine x_normal_then ?_ | refine x_normal_block ?_
        exact ⟨(m + 1, z ++ B [44, 32] ++ textT t), ⟨hlt3, nx_of j2⟩, by (try simp only); omega, lowR_mk [(18, 20)] rfl rfl rfl ⟨⟨rfl, rfl⟩, ⟨rfl, rfl⟩, ⟨rfl, rfl⟩, ⟨rfl, rfl⟩, ⟨rfl, rfl⟩, ⟨rfl, rfl⟩, ⟨rfl, rfl⟩, ⟨rfl, rfl⟩, ⟨rfl, rfl⟩, ⟨rfl, rfl⟩, ⟨rfl, rfl⟩, ⟨rfl, rfl⟩, ⟨rfl, rfl⟩, ⟨rfl, rfl⟩, trivial⟩ ⟨⟨rfl, rfl⟩, ⟨rfl, rfl⟩, ⟨renO_row rfl (by first | exact byteRows_ren _ _ | rfl), blt_lt rfl, byteRows_low _ _⟩, ⟨rfl, rfl⟩, trivial⟩⟩
      · have e0 : decide (0 < (m : Int)) = false := decide_eq_false (by omega)
        rw [if_neg hm0, nil_ba] at j2
        have y6 := sz_of j2 hf
        repeat' first
          | refine Z1 ?_ | refine Z2 ?_ | refine Z3 ?_ | refine Z5 ?_ | refine Zc (good_tree gt) ?_ | refine Ym (prt_at gp (i := 1) (r := 2) (h := 18) (u := z) rfl rfl y6) ?_ | refine Ze ?_ | refine Zf ?_ | refine Zo ?_ | refine ok_seq ?_
          | refine ok_reg ?_ | refine Zp ?_ | refine Zq ?_ | refine ok_block ?_ | refine ok_skip ?_ | refine x_normal_then ?_ | refine x_normal_block ?_
        exact ⟨(m + 1, z ++ textT t), ⟨hlt3, nx_of j2⟩, by (try simp only); omega, lowR_mk [(18, 19)] rfl rfl rfl ⟨⟨rfl, rfl⟩, ⟨rfl, rfl⟩, ⟨rfl, rfl⟩, ⟨rfl, rfl⟩, ⟨rfl, rfl⟩, ⟨rfl, rfl⟩, ⟨rfl, rfl⟩, ⟨rfl, rfl⟩, ⟨rfl, rfl⟩, ⟨rfl, rfl⟩, ⟨rfl, rfl⟩, ⟨rfl, rfl⟩, ⟨rfl, rfl⟩, ⟨rfl, rfl⟩, trivial⟩ ⟨⟨rfl, rfl⟩, ⟨rfl, rfl⟩, ⟨renO_row rfl (by first | exact byteRows_ren _ _ | rfl), blt_lt rfl, byteRows_low _ _⟩, ⟨rfl, rfl⟩, trivial⟩⟩
  · have ev : decide (0 < (n.vars.length : Int)) = false := decide_eq_false (by omega)
    rw [if_neg hv, nil_ba] at i3
    have z6 := sz_of i3 hf
    have i3 := nx_of i3
    repeat' first
      | refine Z1 ?_ | refine Z2 ?_ | refine Z5 ?_ | refine Ul (a := B [110, 111, 100, 101, 32]) (b := n.name) (hb := by rw [ByteArray.size_append]; omega) ?_
      | refine Ul (a := B [110, 111, 100, 101, 32] ++ n.name) (b := B [40]) (hb := by simp only [ByteArray.size_append]; omega) ?_ | refine Ym (write_any (x := x) rfl rfl (by show 2 < 5; omega) (nodH n) z1) ?_
      | refine Yp (decls_ok (i := 1) (r := 2) (h := 5) (t := pt x ++ nodH n) rfl rfl n.ins g1.1 g1.2 z2) ?_
      | refine Ym (write_ok (i := 1) (r := 2) (h := 6) (t := pt x ++ nodH n ++ declsX n.ins) rfl rfl (B [41, 32, 114, 101, 116, 117, 114, 110, 115, 32, 40]) z3) ?_
      | refine Yp (decls_ok (i := 1) (r := 2) (h := 7) (t := pt x ++ nodH n ++ declsX n.ins ++ B [41, 32, 114, 101, 116, 117, 114, 110, 115, 32, 40]) rfl rfl n.outs g2.1 g2.2 z4) ?_
      | refine Ym (write_ok (i := 1) (r := 2) (h := 8) (t := pt x ++ nodH n ++ declsX n.ins ++ B [41, 32, 114, 101, 116, 117, 114, 110, 115, 32, 40] ++ declsX n.outs) rfl rfl (B [41, 10]) z5) ?_
      | refine Ym (write_ok (i := 1) (r := 2) (h := 9) (t := pt x ++ nodH n ++ declsX n.ins ++ B [41, 32, 114, 101, 116, 117, 114, 110, 115, 32, 40] ++ declsX n.outs ++ B [41, 10]) rfl rfl (B [108, 101, 116, 10]) z6) ?_ | refine Zd ?_
      | refine Ze ?_ | refine Zo ?_ | refine ok_seq ?_ | refine Zp ?_ | refine Zq ?_ | refine ok_block ?_ | refine ok_skip ?_ | refine x_normal_then ?_
    obtain ⟨R1, hR1⟩ : ∃ R1, R1 = B [116, 101, 108, 10] ++ M := ⟨_, rfl⟩
    rw [← hR1] at i3
    refine ok_forR (ι := Nat × ByteArray) (fun x_ => envL [(1, .ref 0 0), (3, .ref 1 0), (4, .fn 19 [.ref 1 0]), (16, .d (.im (p.map eNod))), (17, vi p.length), (18, vi (pk x)), (6, .ref 4 0), (49, .d (.im (n.eqs.map eEqn))), (50, vi n.eqs.length), (51, vi x_.1)]) (fun x_ => stL [some (.var [.d (.im (p.map eNod))]), some (.var [.ref 1 0, .sl 2 11 0 x_.2.size]), some (.row 11 5 1 (byteRows x_.2)), none, some (.var ((eNod n).map .d)), none, none, none, none, none, none, none]) (fun x_ => x_.1 ≤ n.eqs.length ∧ x_.2 ++ (catT eqX (n.eqs.drop x_.1) ++ R1) = full) (fun x_ => n.eqs.length - x_.1) (0, pt x ++ nodH n ++ declsX n.ins ++ B [41, 32, 114, 101, 116, 117, 114, 110, 115, 32, 40] ++ declsX n.outs ++ B [41, 10] ++ B [108, 101, 116, 10]) (⟨Nat.zero_le _, i3⟩) Turn.refl (lowR_mk [(11, 10)] rfl rfl rfl ⟨⟨rfl, rfl⟩, ⟨rfl, rfl⟩, ⟨rfl, rfl⟩, ⟨rfl, rfl⟩, ⟨rfl, rfl⟩, ⟨rfl, rfl⟩, ⟨rfl, rfl⟩, ⟨rfl, rfl⟩, ⟨rfl, rfl⟩, ⟨rfl, rfl⟩, trivial⟩ ⟨⟨rfl, rfl⟩, ⟨rfl, rfl⟩, ⟨renO_row rfl (by first | exact byteRows_ren _ _ | rfl), blt_lt rfl, byteRows_low _ _⟩, ⟨rfl, rfl⟩, trivial⟩) ?_
    clear i3
    rintro ⟨k, u⟩ ⟨j1, j2⟩
    simp only at j1 j2
    by_cases hkl : k < n.eqs.length
    rotate_left
    · have ey : decide ((k : Int) < (n.eqs.length : Int)) = false := decide_eq_false (by omega)
      rw [List.drop_eq_nil_of_le (by omega)] at j2
      simp only [catT, nil_ba] at j2
      rw [hR1] at j2
      have y1 := sz_of j2 hf
      have j2 := nx_of j2
      rw [← hM] at j2
      repeat' first
        | refine Z1 ?_ | refine Z2 ?_ | refine Z3 ?_ | refine Z5 ?_ | refine Ym (write_ok (i := 1) (r := 2) (h := 11) (t := u) rfl rfl (B [116, 101, 108, 10]) y1) ?_ | refine Zf ?_ | refine Zo ?_ | refine ok_seq ?_ | refine ok_reg ?_
        | refine Zq ?_ | refine ok_exit ?_ | refine x_normal_then ?_ | refine x_exit_here ?_ | refine Zv ?_ | refine x_normal_block ?_
      refine ⟨some (pk x + 1, u ++ B [116, 101, 108, 10]), ⟨hk, .inr (Nat.succ_pos _), j2⟩, by show p.length - (pk x + 1) < p.length - pk x; omega, ?_⟩
      exact lowR_mk [(3, 12)] rfl rfl rfl ⟨⟨rfl, rfl⟩, ⟨rfl, rfl⟩, ⟨rfl, rfl⟩, ⟨rfl, rfl⟩, ⟨rfl, rfl⟩, ⟨rfl, rfl⟩, trivial⟩ ⟨⟨rfl, rfl⟩, ⟨rfl, rfl⟩, ⟨renO_row rfl (by first | exact byteRows_ren _ _ | rfl), blt_lt rfl, byteRows_low _ _⟩, trivial⟩
    obtain ⟨y, hy⟩ : ∃ y, n.eqs[k]? = some y := ⟨n.eqs[k], List.getElem?_eq_getElem hkl⟩
    obtain ⟨hd2, hlt2⟩ := drop_some hy
    have ey : decide ((k : Int) < (n.eqs.length : Int)) = true := decide_eq_true (by omega)
    obtain ⟨l1, l2, l3, l4⟩ := g5 y (List.mem_of_getElem? hy)
    rw [hd2] at j2
    simp only [catT, eqX, ba_assoc] at j2
    obtain ⟨R2, hR2⟩ : ∃ R2, R2 = catT eqX (n.eqs.drop (k + 1)) ++ R1 := ⟨_, rfl⟩
    rw [← hR2] at j2
    have y1 := sz_of j2 hf
    have j2 := nx_of j2
    have y2 := y1
    unfold eqH at y2
    simp only [ByteArray.size_append] at y2
    by_cases hc : y.call = ⟨#[]⟩
    · have dc : decide (y.call = ⟨#[]⟩) = true := decide_eq_true hc
      have dc2 : decide (y.call = ByteArray.empty) = true := dc
      obtain ⟨t, gt⟩ := l3 hc
      have hb : eqBody y = textT t := by unfold eqBody codeX; rw [if_pos hc, good_I gt]
      rw [hb] at j2
      have y3 := sz_of j2 hf
      have j2 := nx_of j2
      have y4 := sz_of j2 hf
      have j2 := nx_of j2
      rw [hR2] at j2
      have gp : Prt t := good_print gt
      repeat' first
        | refine Z1 ?_ | refine Z2 ?_ | refine Z3 ?_ | refine Z5 ?_ | refine Zc (sjoin_ok (B [44, 32]) y.lhs l1 (by omega) (by omega)) ?_
        | refine Ul (a := B [32, 32]) (b := joinT (B [44, 32]) 0 y.lhs) (hb := by rw [ByteArray.size_append]; omega) ?_
        | refine Ul (a := B [32, 32] ++ joinT (B [44, 32]) 0 y.lhs) (b := B [32, 61, 32]) (hb := by simp only [ByteArray.size_append]; omega) ?_ | refine Ym (write_ok (i := 1) (r := 2) (h := 11) (t := u) rfl rfl (eqH y) y1) ?_
        | refine Zc (good_tree gt) ?_ | refine Ym (prt_at gp (i := 1) (r := 2) (h := 13) (u := u ++ eqH y) rfl rfl y3) ?_ | refine Ym (write_ok (i := 1) (r := 2) (h := 14) (t := u ++ eqH y ++ textT t) rfl rfl (B [59, 10]) y4) ?_ | refine Ze ?_
        | refine Zf ?_ | refine Zo ?_ | refine ok_seq ?_ | refine ok_reg ?_ | refine Zp ?_ | refine ok_block ?_ | refine ok_skip ?_ | refine x_normal_then ?_ | refine x_normal_block ?_
      exact ⟨(k + 1, u ++ eqH y ++ textT t ++ B [59, 10]), ⟨hlt2, j2⟩, by (try simp only); omega, lowR_mk [(11, 15)] rfl rfl rfl ⟨⟨rfl, rfl⟩, ⟨rfl, rfl⟩, ⟨rfl, rfl⟩, ⟨rfl, rfl⟩, ⟨rfl, rfl⟩, ⟨rfl, rfl⟩, ⟨rfl, rfl⟩, ⟨rfl, rfl⟩, ⟨rfl, rfl⟩, ⟨rfl, rfl⟩, trivial⟩ ⟨⟨rfl, rfl⟩, ⟨rfl, rfl⟩, ⟨renO_row rfl (by first | exact byteRows_ren _ _ | rfl), blt_lt rfl, byteRows_low _ _⟩, ⟨rfl, rfl⟩, trivial⟩⟩
    · have dc : decide (y.call = ⟨#[]⟩) = false := decide_eq_false hc
      have dc2 : decide (y.call = ByteArray.empty) = false := dc
      obtain ⟨a1, a2⟩ := l4 hc
      have hb : eqBody y = (y.call ++ B [40]) ++ (joinT (B [44, 32]) 0 (y.args.map codeX) ++ B [41]) := by unfold eqBody; rw [if_neg hc]
      rw [hb] at j2
      have j2 : u ++ eqH y ++ ((y.call ++ B [40]) ++ (joinT (B [44, 32]) 0 (y.args.map codeX) ++ (B [41] ++ (B [59, 10] ++ R2)))) = full := by rw [← j2]; simp only [ba_assoc]
      have y3 := sz_of j2 hf
      have j2 := nx_of j2
      have y4 := y3
      simp only [ByteArray.size_append] at y4
      obtain ⟨R3, hR3⟩ : ∃ R3, R3 = B [41] ++ (B [59, 10] ++ R2) := ⟨_, rfl⟩
      rw [← hR3] at j2
      repeat' first
        | refine Z1 ?_ | refine Z2 ?_ | refine Z5 ?_ | refine Zc (sjoin_ok (B [44, 32]) y.lhs l1 (by omega) (by omega)) ?_ | refine Ul (a := B [32, 32]) (b := joinT (B [44, 32]) 0 y.lhs) (hb := by rw [ByteArray.size_append]; omega) ?_
        | refine Ul (a := B [32, 32] ++ joinT (B [44, 32]) 0 y.lhs) (b := B [32, 61, 32]) (hb := by simp only [ByteArray.size_append]; omega) ?_ | refine Ym (write_ok (i := 1) (r := 2) (h := 11) (t := u) rfl rfl (eqH y) y1) ?_
        | refine Ul (a := y.call) (b := B [40]) (hb := by rw [ByteArray.size_append]; omega) ?_ | refine Ym (write_ok (i := 1) (r := 2) (h := 13) (t := u ++ eqH y) rfl rfl (y.call ++ B [40]) y3) ?_ | refine Zd ?_ | refine Ze ?_ | refine Zo ?_
        | refine ok_seq ?_ | refine Zp ?_ | refine Zq ?_ | refine ok_block ?_ | refine ok_skip ?_ | refine x_normal_then ?_
      refine ok_forR (ι := Nat × ByteArray) (fun x_ => envL [(1, .ref 0 0), (3, .ref 1 0), (4, .fn 19 [.ref 1 0]), (16, .d (.im (p.map eNod))), (17, vi p.length), (18, vi (pk x)), (6, .ref 4 0), (49, .d (.im (n.eqs.map eEqn))), (50, vi n.eqs.length), (51, vi k), (8, .ref 12 0), (73, .d (.im (y.args.map eItms))), (74, vi y.args.length), (75, vi x_.1)]) (fun x_ => stL [some (.var [.d (.im (p.map eNod))]), some (.var [.ref 1 0, .sl 2 15 0 x_.2.size]), some (.row 15 5 1 (byteRows x_.2)), none, some (.var ((eNod n).map .d)), none, none, none, none, none, none, none, none, none, none, none]) (fun x_ => x_.1 ≤ y.args.length ∧ x_.2 ++ (joinT (B [44, 32]) x_.1 ((y.args.drop x_.1).map codeX) ++ R3) = full) (fun x_ => y.args.length - x_.1) (0, u ++ eqH y ++ (y.call ++ B [40])) (⟨Nat.zero_le _, j2⟩) Turn.refl (lowR_mk [(15, 14)] rfl rfl rfl ⟨⟨rfl, rfl⟩, ⟨rfl, rfl⟩, ⟨rfl, rfl⟩, ⟨rfl, rfl⟩, ⟨rfl, rfl⟩, ⟨rfl, rfl⟩, ⟨rfl, rfl⟩, ⟨rfl, rfl⟩, ⟨rfl, rfl⟩, ⟨rfl, rfl⟩, ⟨rfl, rfl⟩, ⟨rfl, rfl⟩, ⟨rfl, rfl⟩, ⟨rfl, rfl⟩, trivial⟩ ⟨⟨rfl, rfl⟩, ⟨rfl, rfl⟩, ⟨renO_row rfl (by first | exact byteRows_ren _ _ | rfl), blt_lt rfl, byteRows_low _ _⟩, ⟨rfl, rfl⟩, trivial⟩) ?_
      clear j2
      rintro ⟨m, z⟩ ⟨j1, j2⟩
      simp only at j1 j2
      by_cases hml : m < y.args.length
      rotate_left
      · have em : decide ((m : Int) < (y.args.length : Int)) = false := decide_eq_false (by omega)
        rw [List.drop_eq_nil_of_le (by omega)] at j2
        simp only [List.map_nil, joinT, nil_ba] at j2
        rw [hR3] at j2
        have y5 := sz_of j2 hf
        have j2 := nx_of j2
        have y6 := sz_of j2 hf
        have j2 := nx_of j2
        rw [hR2] at j2
        repeat' first
          | refine Z1 ?_ | refine Z2 ?_ | refine Z3 ?_ | refine Z5 ?_ | refine Ym (write_ok (i := 1) (r := 2) (h := 15) (t := z) rfl rfl (B [41]) y5) ?_
          | refine Ym (write_ok (i := 1) (r := 2) (h := 16) (t := z ++ B [41]) rfl rfl (B [59, 10]) y6) ?_ | refine Zf ?_ | refine Zo ?_ | refine ok_seq ?_ | refine ok_reg ?_ | refine Zq ?_ | refine ok_exit ?_ | refine x_normal_then ?_
          | refine x_exit_here ?_ | refine Zv ?_ | refine x_normal_block ?_
        exact ⟨(k + 1, z ++ B [41] ++ B [59, 10]), ⟨hlt2, j2⟩, by (try simp only); omega, lowR_mk [(11, 17)] rfl rfl rfl ⟨⟨rfl, rfl⟩, ⟨rfl, rfl⟩, ⟨rfl, rfl⟩, ⟨rfl, rfl⟩, ⟨rfl, rfl⟩, ⟨rfl, rfl⟩, ⟨rfl, rfl⟩, ⟨rfl, rfl⟩, ⟨rfl, rfl⟩, ⟨rfl, rfl⟩, trivial⟩ ⟨⟨rfl, rfl⟩, ⟨rfl, rfl⟩, ⟨renO_row rfl (by first | exact byteRows_ren _ _ | rfl), blt_lt rfl, byteRows_low _ _⟩, ⟨rfl, rfl⟩, trivial⟩⟩
      obtain ⟨a, ha⟩ : ∃ a, y.args[m]? = some a := ⟨y.args[m], List.getElem?_eq_getElem hml⟩
      obtain ⟨hd3, hlt3⟩ := drop_some ha
      have em : decide ((m : Int) < (y.args.length : Int)) = true := decide_eq_true (by omega)
      obtain ⟨t, gt⟩ := a2 a (List.mem_of_getElem? ha)
      have gp : Prt t := good_print gt
      have hct : codeX a = textT t := by unfold codeX; rw [good_I gt]
      rw [hd3] at j2
      simp only [List.map_cons, joinT, hct, ba_assoc] at j2
      by_cases hm0 : 0 < m
      · have e0 : decide (0 < (m : Int)) = true := decide_eq_true (by omega)
        rw [if_pos hm0] at j2
        have y5 := sz_of j2 hf
        have j2 := nx_of j2
        have y6 := sz_of j2 hf
        repeat' first
          | refine Z1 ?_ | refine Z2 ?_ | refine Z3 ?_ | refine Z5 ?_ | refine Ym (write_ok (i := 1) (r := 2) (h := 15) (t := z) rfl rfl (B [44, 32]) y5) ?_ | refine Zc (good_tree gt) ?_
          | refine Ym (prt_at gp (i := 1) (r := 2) (h := 16) (u := z ++ B [44, 32]) rfl rfl y6) ?_ | refine Ze ?_ | refine Zf ?_ | refine Zo ?_ | refine ok_seq ?_ | refine ok_reg ?_ | refine Zp ?_ | refine ok_block ?_ | refine ok_skip ?_
          | refine x_normal_then ?_ | refine x_normal_block ?_
        exact ⟨(m + 1, z ++ B [44, 32] ++ textT t), ⟨hlt3, nx_of j2⟩, by (try simp only); omega, lowR_mk [(15, 17)] rfl rfl rfl ⟨⟨rfl, rfl⟩, ⟨rfl, rfl⟩, ⟨rfl, rfl⟩, ⟨rfl, rfl⟩, ⟨rfl, rfl⟩, ⟨rfl, rfl⟩, ⟨rfl, rfl⟩, ⟨rfl, rfl⟩, ⟨rfl, rfl⟩, ⟨rfl, rfl⟩, ⟨rfl, rfl⟩, ⟨rfl, rfl⟩, ⟨rfl, rfl⟩, ⟨rfl, rfl⟩, trivial⟩ ⟨⟨rfl, rfl⟩, ⟨rfl, rfl⟩, ⟨renO_row rfl (by first | exact byteRows_ren _ _ | rfl), blt_lt rfl, byteRows_low _ _⟩, ⟨rfl, rfl⟩, trivial⟩⟩
      · have e0 : decide (0 < (m : Int)) = false := decide_eq_false (by omega)
        rw [if_neg hm0, nil_ba] at j2
        have y6 := sz_of j2 hf
        repeat' first
          | refine Z1 ?_ | refine Z2 ?_ | refine Z3 ?_ | refine Z5 ?_ | refine Zc (good_tree gt) ?_ | refine Ym (prt_at gp (i := 1) (r := 2) (h := 15) (u := z) rfl rfl y6) ?_ | refine Ze ?_ | refine Zf ?_ | refine Zo ?_ | refine ok_seq ?_
          | refine ok_reg ?_ | refine Zp ?_ | refine Zq ?_ | refine ok_block ?_ | refine ok_skip ?_ | refine x_normal_then ?_ | refine x_normal_block ?_
        exact ⟨(m + 1, z ++ textT t), ⟨hlt3, nx_of j2⟩, by (try simp only); omega, lowR_mk [(15, 16)] rfl rfl rfl ⟨⟨rfl, rfl⟩, ⟨rfl, rfl⟩, ⟨rfl, rfl⟩, ⟨rfl, rfl⟩, ⟨rfl, rfl⟩, ⟨rfl, rfl⟩, ⟨rfl, rfl⟩, ⟨rfl, rfl⟩, ⟨rfl, rfl⟩, ⟨rfl, rfl⟩, ⟨rfl, rfl⟩, ⟨rfl, rfl⟩, ⟨rfl, rfl⟩, ⟨rfl, rfl⟩, trivial⟩ ⟨⟨rfl, rfl⟩, ⟨rfl, rfl⟩, ⟨renO_row rfl (by first | exact byteRows_ren _ _ | rfl), blt_lt rfl, byteRows_low _ _⟩, ⟨rfl, rfl⟩, trivial⟩⟩
end Go.Pm
/- The specification's Print. -/
set_option linter.unusedVariables false
set_option linter.unusedSimpArgs false
namespace Go.Pm
attribute [local irreducible] AR Ok inBlock andThen endQ aoper
set_option maxHeartbeats 8000000
open Go.Proofs
theorem sdeclsX_ok (l : List Vr) (h : okD l) (hs : (declsX l).size ≤ 140737488355328) : PFun X 15 [.d (.im (l.map eVr))] (.d (.im ((l.map declT).map eStr))) ∧ PFun X 14 [.d (.im ((l.map declT).map eStr)), vs (B [59, 32])] (vs (declsX l)) :=
  ⟨sdecls_ok l h.1 fun v hv => ⟨(h.2 v hv).1, Nat.le_trans (join_mem (sep := B [59, 32]) (i := 0) (List.mem_map_of_mem (f := declT) hv)) hs⟩, join_ok (B [59, 32]) (l.map declT) (by simpa using h.1) hs⟩
def headX (n : Nod) : ByteArray := B [110, 111, 100, 101, 32] ++ n.name ++ B [40] ++ declsX n.ins ++ B [41, 32, 114, 101, 116, 117, 114, 110, 115, 32, 40] ++ declsX n.outs ++ B [41, 10]
theorem nodX_head (n : Nod) : nodX n = headX n ++ (varX n ++ (B [108, 101, 116, 10] ++ (catT eqX n.eqs ++ B [116, 101, 108, 10]))) := by unfold nodX headX nodH; simp only [ba_assoc]
theorem sp_s (p : List Nod) (hw : wL wNod p ≤ 1048576) (hsh : shapeS p = true) (hok : ∀ n ∈ p, okN n) (hf : (progX p).size ≤ 140737488355328) : PFun X 6 [.agg [.d (.im (p.map eNod))]] (vs (progX p)) := by
  have hpl : p.length ≤ 1048576 := by simp only [wL] at hw; omega
  have hsk := sshape_ok p hw
  rw [hsh] at hsk
  have ht0 : (!true) = false := rfl
  generalize hfull : progX p = full at hf
  refine pfun_of Tryd.func6 rfl (by decide) Tryd.ntmps6 Tryd.results6 (by simp) rfl rfl ?_
  repeat' first
    | refine Z1 ?_ | refine Z2 ?_ | refine Z5 ?_ | refine Zc (hsk) ?_ | refine Zd ?_ | refine Zo ?_ | refine ok_seq ?_ | refine Zq ?_ | refine ok_block ?_ | refine ok_skip ?_ | refine x_normal_then ?_
  refine ok_for (ι := Nat × ByteArray) (fun x_ => envL [(1, .ref 0 0), (3, vs x_.2), (15, .d (.im (p.map eNod))), (16, vi p.length), (17, vi x_.1)]) (fun x_ => stL [some (.var [.d (.im (p.map eNod))])]) (fun x_ => x_.1 ≤ p.length ∧ x_.2 ++ catT nodX (p.drop x_.1) = full) (fun x_ => p.length - x_.1) (0, B []) (⟨Nat.zero_le _, by rw [nil_ba]; exact hfull⟩) (weak_mk rfl ⟨.refl _, .refl _, .refl _, .refl _, .refl _, trivial⟩ ⟨⟨rfl, _, rfl, rfl, fun _ _ _ => .refl _⟩, trivial⟩) (fun _ => Nat.le_refl 1) ?_
  rintro ⟨k, u⟩ ⟨i1, i2⟩
  simp only at i1 i2
  rcases hx : p[k]? with _ | n
  · have hle := none_le hx
    have ek : decide ((k : Int) < (p.length : Int)) = false := decide_eq_false (by omega)
    rw [drop_none hx] at i2
    simp only [catT, ba_nil] at i2
    repeat' first
      | refine Z1 ?_ | refine Z2 ?_ | refine Zo ?_ | refine ok_seq ?_ | refine Zq ?_ | refine ok_exit ?_ | refine ok_ret ?_ | refine x_normal_then ?_ | refine x_exit_here ?_ | refine Zv ?_ | refine Zt ?_
    exact congrArg (fun v => AEnd.ret (vs v)) i2
  obtain ⟨hd, hlt⟩ := drop_some hx
  have ek : decide ((k : Int) < (p.length : Int)) = true := decide_eq_true (by omega)
  obtain ⟨g1, g2, g3, g4, g5⟩ := hok n (List.mem_of_getElem? hx)
  rw [hd] at i2
  simp only [catT, nodX_head, ba_assoc] at i2
  have z1 := sz_of i2 hf
  have i2 := nx_of i2
  have q1 := z1
  unfold headX at q1
  simp only [ByteArray.size_append] at q1
  obtain ⟨d1, d2⟩ := sdeclsX_ok n.ins g1 (by omega)
  obtain ⟨d3, d4⟩ := sdeclsX_ok n.outs g2 (by omega)
  have vsz : (varX n).size ≤ 140737488355328 := by have q := congrArg ByteArray.size i2; simp only [ByteArray.size_append] at q; omega
  have y0 := sz_of i2 hf
  have i2 := nx_of i2
  have y1 := sz_of i2 hf
  have i2 := nx_of i2
  simp only [ByteArray.size_append] at y0 y1
  obtain ⟨v0, hv0⟩ : ∃ v0, v0 = varX n := ⟨_, rfl⟩
  rw [← hv0] at i2 y0 y1
  unfold varX at hv0
  by_cases hv : 0 < n.vars.length
  · have ev : decide (0 < (n.vars.length : Int)) = true := decide_eq_true (by omega)
    repeat' first
      | refine Z1 ?_ | refine Z2 ?_ | refine Z5 ?_ | refine Zd ?_ | refine Ze ?_ | refine Zw ?_ | refine Zx ?_ | refine Zz (Zc (d1) ⟨rfl, rfl⟩) ?_ | refine Zz (Zc (d2) ⟨rfl, rfl⟩) ?_ | refine Zz (Zc (d3) ⟨rfl, rfl⟩) ?_
      | refine Zz (Zc (d4) ⟨rfl, rfl⟩) ?_ | refine Zz (Ul (a := B [110, 111, 100, 101, 32]) (b := n.name) (hb := by simp only [ByteArray.size_append]; omega) ⟨rfl, rfl⟩) ?_
      | refine Zz (Ul (a := B [110, 111, 100, 101, 32] ++ n.name) (b := B [40]) (hb := by simp only [ByteArray.size_append]; omega) ⟨rfl, rfl⟩) ?_
      | refine Zz (Ul (a := B [110, 111, 100, 101, 32] ++ n.name ++ B [40]) (b := declsX n.ins) (hb := by simp only [ByteArray.size_append]; omega) ⟨rfl, rfl⟩) ?_
      | refine Zz (Ul (a := B [110, 111, 100, 101, 32] ++ n.name ++ B [40] ++ declsX n.ins) (b := B [41, 32, 114, 101, 116, 117, 114, 110, 115, 32, 40]) (hb := by simp only [ByteArray.size_append]; omega) ⟨rfl, rfl⟩) ?_
      | refine Zz (Ul (a := B [110, 111, 100, 101, 32] ++ n.name ++ B [40] ++ declsX n.ins ++ B [41, 32, 114, 101, 116, 117, 114, 110, 115, 32, 40]) (b := declsX n.outs) (hb := by simp only [ByteArray.size_append]; omega) ⟨rfl, rfl⟩) ?_
      | refine Zz (Ul (a := B [110, 111, 100, 101, 32] ++ n.name ++ B [40] ++ declsX n.ins ++ B [41, 32, 114, 101, 116, 117, 114, 110, 115, 32, 40] ++ declsX n.outs) (b := B [41, 10]) (hb := by simp only [ByteArray.size_append]; omega) ⟨rfl, rfl⟩) ?_
      | refine Zz (Ul (a := u) (b := headX n) (hb := by omega) ⟨rfl, rfl⟩) ?_ | refine Zo ?_ | refine ok_seq ?_ | refine ok_reg ?_ | refine ok_draw X_mixed (by decide +kernel) ?_ | refine Zp ?_ | refine ok_block ?_ | refine ok_skip ?_
      | refine x_normal_then ?_
    rw [if_pos hv] at hv0
    have q2 := congrArg ByteArray.size hv0
    simp only [ByteArray.size_append] at q2
    obtain ⟨d5, d6⟩ := sdeclsX_ok n.vars g3 (by omega)
    have hv1 : B [118, 97, 114, 32] ++ declsX n.vars ++ B [59, 10] = v0 := by rw [hv0]; simp only [ba_assoc]
    repeat' first
      | refine Z1 ?_ | refine Z2 ?_ | refine Z5 ?_ | refine Zc (d5) ?_ | refine Zc (d6) ?_ | refine Ul (a := B [118, 97, 114, 32]) (b := declsX n.vars) (hb := by simp only [ByteArray.size_append]; omega) ?_
      | refine Ul (a := B [118, 97, 114, 32] ++ declsX n.vars) (b := B [59, 10]) (hb := by simp only [ByteArray.size_append]; omega) ?_
      | refine Ul (a := u ++ headX n) (b := B [118, 97, 114, 32] ++ declsX n.vars ++ B [59, 10]) (hb := by rw [hv1, ByteArray.size_append, ByteArray.size_append]; omega) ?_
      | refine Ul (a := u ++ headX n ++ (B [118, 97, 114, 32] ++ declsX n.vars ++ B [59, 10])) (b := B [108, 101, 116, 10]) (hb := by rw [hv1]; simp only [ByteArray.size_append]; omega) ?_ | refine Zd ?_ | refine Zo ?_ | refine ok_seq ?_
      | refine ok_block ?_
    rw [hv1]
    obtain ⟨R1, hR1⟩ : ∃ R1, R1 = B [116, 101, 108, 10] ++ catT nodX (p.drop (k + 1)) := ⟨_, rfl⟩
    rw [← hR1] at i2
    refine ok_for (ι := Nat × ByteArray) (fun x_ => envL [(1, .ref 0 0), (15, .d (.im (p.map eNod))), (16, vi p.length), (17, vi k), (5, .ref 1 0), (54, .d (.im (n.eqs.map eEqn))), (55, vi n.eqs.length), (3, vs x_.2), (56, vi x_.1)]) (fun x_ => stL [some (.var [.d (.im (p.map eNod))]), some (.var ((eNod n).map .d))]) (fun x_ => x_.1 ≤ n.eqs.length ∧ x_.2 ++ (catT eqX (n.eqs.drop x_.1) ++ R1) = full) (fun x_ => n.eqs.length - x_.1) (0, u ++ headX n ++ v0 ++ B [108, 101, 116, 10]) (⟨Nat.zero_le _, i2⟩) (weak_mk rfl ⟨.refl _, .refl _, .refl _, .refl _, .refl _, .refl _, .refl _, .refl _, .refl _, trivial⟩ ⟨⟨rfl, _, rfl, rfl, fun _ _ _ => .refl _⟩, ⟨rfl, _, rfl, rfl, fun _ _ _ => .refl _⟩, trivial⟩) (fun _ => Nat.le_refl 2) ?_
    clear i2
    rintro ⟨q, z⟩ ⟨j1, j2⟩
    simp only at j1 j2
    by_cases hql : q < n.eqs.length
    rotate_left
    · have ey : decide ((q : Int) < (n.eqs.length : Int)) = false := decide_eq_false (by omega)
      rw [List.drop_eq_nil_of_le (by omega)] at j2
      simp only [catT, nil_ba] at j2
      rw [hR1] at j2
      have x1 := sz_of j2 hf
      have j2 := nx_of j2
      repeat' first
        | refine Z1 ?_ | refine Z2 ?_ | refine Z3 ?_ | refine Z5 ?_ | refine Ul (a := z) (b := B [116, 101, 108, 10]) (hb := by omega) ?_ | refine Zf ?_ | refine Zo ?_ | refine ok_seq ?_ | refine ok_reg ?_ | refine Zq ?_ | refine ok_exit ?_
        | refine x_normal_then ?_ | refine x_exit_here ?_ | refine Zv ?_ | refine x_normal_block ?_
      exact ⟨(k + 1, z ++ B [116, 101, 108, 10]), ⟨hlt, j2⟩, by (try simp only); omega, low_mk (Nat.le_of_ble_eq_true rfl) ⟨⟨rfl, rfl⟩, ⟨rfl, rfl⟩, ⟨rfl, rfl⟩, ⟨rfl, rfl⟩, ⟨rfl, rfl⟩, trivial⟩ ⟨⟨rfl, rfl⟩, trivial⟩⟩
    obtain ⟨y, hy⟩ : ∃ y, n.eqs[q]? = some y := ⟨n.eqs[q], List.getElem?_eq_getElem hql⟩
    obtain ⟨hd2, hlt2⟩ := drop_some hy
    have ey : decide ((q : Int) < (n.eqs.length : Int)) = true := decide_eq_true (by omega)
    obtain ⟨l1, l2, l3, l4⟩ := g5 y (List.mem_of_getElem? hy)
    rw [hd2] at j2
    simp only [catT, eqX, ba_assoc] at j2
    have x1 := sz_of j2 hf
    have j2 := nx_of j2
    have x2 := sz_of j2 hf
    have j2 := nx_of j2
    have x3 := sz_of j2 hf
    have j2 := nx_of j2
    have x4 := x1
    unfold eqH at x4
    simp only [ByteArray.size_append] at x2 x3 x4
    by_cases hc : y.call = ⟨#[]⟩
    · have dc : decide (y.call = ⟨#[]⟩) = true := decide_eq_true hc
      have dc2 : decide (y.call = ByteArray.empty) = true := dc
      obtain ⟨t, gt⟩ := l3 hc
      have hb : eqBody y = textT t := by unfold eqBody codeX; rw [if_pos hc, good_I gt]
      rw [hb] at j2 x2 x3
      repeat' first
        | refine Z1 ?_ | refine Z2 ?_ | refine Z3 ?_ | refine Z5 ?_ | refine Zc (join_ok (B [44, 32]) y.lhs (by omega) (by omega)) ?_
        | refine Ul (a := B [32, 32]) (b := joinT (B [44, 32]) 0 y.lhs) (hb := by simp only [ByteArray.size_append]; omega) ?_
        | refine Ul (a := B [32, 32] ++ joinT (B [44, 32]) 0 y.lhs) (b := B [32, 61, 32]) (hb := by simp only [ByteArray.size_append]; omega) ?_ | refine Ul (a := z) (b := eqH y) (hb := by omega) ?_ | refine Zc (good_text gt (by omega)) ?_
        | refine Ul (a := z ++ eqH y) (b := textT t) (hb := by simp only [ByteArray.size_append]; omega) ?_ | refine Ul (a := z ++ eqH y ++ textT t) (b := B [59, 10]) (hb := by simp only [ByteArray.size_append]; omega) ?_ | refine Zd ?_
        | refine Ze ?_ | refine Zf ?_ | refine Zo ?_ | refine ok_seq ?_ | refine ok_reg ?_ | refine Zp ?_ | refine ok_block ?_ | refine ok_skip ?_ | refine x_normal_then ?_ | refine x_normal_block ?_
      exact ⟨(q + 1, z ++ eqH y ++ textT t ++ B [59, 10]), ⟨hlt2, j2⟩, by (try simp only); omega, low_mk (Nat.le_of_ble_eq_true rfl) ⟨⟨rfl, rfl⟩, ⟨rfl, rfl⟩, ⟨rfl, rfl⟩, ⟨rfl, rfl⟩, ⟨rfl, rfl⟩, ⟨rfl, rfl⟩, ⟨rfl, rfl⟩, ⟨rfl, rfl⟩, ⟨rfl, rfl⟩, trivial⟩ ⟨⟨rfl, rfl⟩, ⟨rfl, rfl⟩, trivial⟩⟩
    · have dc : decide (y.call = ⟨#[]⟩) = false := decide_eq_false hc
      have dc2 : decide (y.call = ByteArray.empty) = false := dc
      obtain ⟨a1, a2⟩ := l4 hc
      have hb : eqBody y = y.call ++ B [40] ++ joinT (B [44, 32]) 0 (y.args.map codeX) ++ B [41] := by unfold eqBody; rw [if_neg hc]; simp only [ba_assoc]
      rw [hb] at j2 x2 x3
      simp only [ByteArray.size_append] at x2 x3
      repeat' first
        | refine Z1 ?_ | refine Z2 ?_ | refine Z5 ?_ | refine Zc (join_ok (B [44, 32]) y.lhs (by omega) (by omega)) ?_ | refine Ul (a := B [32, 32]) (b := joinT (B [44, 32]) 0 y.lhs) (hb := by simp only [ByteArray.size_append]; omega) ?_
        | refine Ul (a := B [32, 32] ++ joinT (B [44, 32]) 0 y.lhs) (b := B [32, 61, 32]) (hb := by simp only [ByteArray.size_append]; omega) ?_ | refine Ul (a := z) (b := eqH y) (hb := by omega) ?_
        | refine op_bslice rfl rfl rfl rfl rfl rfl rfl ?_ | refine Zd ?_ | refine Ze ?_ | refine Zo ?_ | refine ok_seq ?_ | refine Zp ?_ | refine Zq ?_ | refine ok_block ?_ | refine ok_skip ?_ | refine x_normal_then ?_
      refine ok_forR (ι := Nat × List ByteArray) (fun x_ => envL [(1, .ref 0 0), (15, .d (.im (p.map eNod))), (16, vi p.length), (17, vi k), (5, .ref 1 0), (54, .d (.im (n.eqs.map eEqn))), (55, vi n.eqs.length), (3, vs (z ++ eqH y)), (56, vi q), (7, .ref 2 0), (8, .sl 3 4 0 x_.2.length), (80, .d (.im (y.args.map eItms))), (81, vi y.args.length), (82, vi x_.1)]) (fun x_ => stL [some (.var [.d (.im (p.map eNod))]), some (.var ((eNod n).map .d)), some (.var ((eEqn y).map .d)), some (.row 4 9 1 (im2 eStr x_.2)), none]) (fun x_ => x_.1 ≤ y.args.length ∧ x_.2 = (y.args.take x_.1).map codeX) (fun x_ => y.args.length - x_.1) (0, []) (⟨Nat.zero_le _, rfl⟩) Turn.refl (lowR_mk [(4, 3)] rfl rfl rfl ⟨⟨rfl, rfl⟩, ⟨rfl, rfl⟩, ⟨rfl, rfl⟩, ⟨rfl, rfl⟩, ⟨rfl, rfl⟩, ⟨rfl, rfl⟩, ⟨rfl, rfl⟩, ⟨rfl, rfl⟩, ⟨rfl, rfl⟩, ⟨rfl, rfl⟩, ⟨rfl, rfl⟩, ⟨rfl, rfl⟩, ⟨rfl, rfl⟩, ⟨rfl, rfl⟩, trivial⟩ ⟨⟨rfl, rfl⟩, ⟨rfl, rfl⟩, ⟨rfl, rfl⟩, ⟨renO_row rfl (by first | exact im2_ren _ _ _ | rfl), blt_lt rfl, im2_low _ _ _⟩, trivial⟩) ?_
      rintro ⟨m, L⟩ ⟨k1, k2⟩
      simp only at k1 k2
      have hL : L.length ≤ y.args.length := by rw [k2]; simp; omega
      by_cases hml : m < y.args.length
      · obtain ⟨a, ha⟩ : ∃ a, y.args[m]? = some a := ⟨y.args[m], List.getElem?_eq_getElem hml⟩
        obtain ⟨hd3, hlt3⟩ := drop_some ha
        have em : decide ((m : Int) < (y.args.length : Int)) = true := decide_eq_true (by omega)
        obtain ⟨t, gt⟩ := a2 a (List.mem_of_getElem? ha)
        have hct : textT t = codeX a := by unfold codeX; rw [good_I gt]
        have hsz := join_mem (sep := B [44, 32]) (i := 0) (List.mem_map_of_mem (f := codeX) (List.mem_of_getElem? ha))
        have gx := good_text gt (by rw [hct]; omega)
        rw [hct] at gx
        repeat' first
          | refine Z1 ?_ | refine Z2 ?_ | refine Z3 ?_ | refine Z4 ?_ | refine Z5 ?_ | refine Zc (gx) ?_ | refine Yl (e := eStr) (l := L) [codeX a] ?_ | refine Zd ?_ | refine Ze ?_ | refine Zf ?_ | refine Zo ?_ | refine ok_seq ?_
          | refine ok_reg ?_ | refine Zp ?_ | refine ok_block ?_ | refine ok_skip ?_ | refine x_normal_then ?_ | refine x_normal_block ?_
        exact ⟨(m + 1, L ++ [codeX a]), ⟨hlt3, by rw [k2, tk_push ha, List.map_append]; rfl⟩, by (try simp only); omega, lowR_mk [(4, 6)] rfl rfl rfl ⟨⟨rfl, rfl⟩, ⟨rfl, rfl⟩, ⟨rfl, rfl⟩, ⟨rfl, rfl⟩, ⟨rfl, rfl⟩, ⟨rfl, rfl⟩, ⟨rfl, rfl⟩, ⟨rfl, rfl⟩, ⟨rfl, rfl⟩, ⟨rfl, rfl⟩, ⟨rfl, rfl⟩, ⟨rfl, rfl⟩, ⟨rfl, rfl⟩, ⟨rfl, rfl⟩, trivial⟩ ⟨⟨rfl, rfl⟩, ⟨rfl, rfl⟩, ⟨rfl, rfl⟩, ⟨renO_row rfl (by first | exact im2_ren _ _ _ | rfl), blt_lt rfl, im2_low _ _ _⟩, trivial⟩⟩
      · have em : decide ((m : Int) < (y.args.length : Int)) = false := decide_eq_false (by omega)
        rw [List.take_of_length_le (by omega)] at k2
        subst k2
        repeat' first
          | refine Z1 ?_ | refine Z2 ?_ | refine Z3 ?_ | refine Z5 ?_
          | refine Ul (a := z ++ eqH y ++ (y.call ++ B [40] ++ joinT (B [44, 32]) 0 (y.args.map codeX) ++ B [41])) (b := B [59, 10]) (hb := by simp only [ByteArray.size_append]; omega) ?_ | refine Zf ?_ | refine Zw ?_ | refine Zx ?_
          | refine Zz (Ym (PFun.lendL (args := [.sl 3 4 0 (y.args.map codeX).length, vs (B [44, 32])]) (join_ok (B [44, 32]) (y.args.map codeX) (by simp; omega) (by omega)) ⟨.data (fz_im2 rfl rfl), afz_d _, trivial⟩) ⟨rfl, rfl⟩) ?_
          | refine Zz (Ul (a := y.call) (b := B [40]) (hb := by simp only [ByteArray.size_append]; omega) ⟨rfl, rfl⟩) ?_
          | refine Zz (Ul (a := y.call ++ B [40]) (b := joinT (B [44, 32]) 0 (y.args.map codeX)) (hb := by simp only [ByteArray.size_append]; omega) ⟨rfl, rfl⟩) ?_
          | refine Zz (Ul (a := y.call ++ B [40] ++ joinT (B [44, 32]) 0 (y.args.map codeX)) (b := B [41]) (hb := by simp only [ByteArray.size_append]; omega) ⟨rfl, rfl⟩) ?_
          | refine Zz (Ul (a := z ++ eqH y) (b := y.call ++ B [40] ++ joinT (B [44, 32]) 0 (y.args.map codeX) ++ B [41]) (hb := by simp only [ByteArray.size_append]; omega) ⟨rfl, rfl⟩) ?_ | refine Zo ?_ | refine ok_seq ?_ | refine ok_reg ?_
          | refine ok_draw X_mixed (by decide +kernel) ?_ | refine Zq ?_ | refine ok_exit ?_ | refine x_normal_then ?_ | refine x_exit_here ?_ | refine Zv ?_ | refine x_normal_block ?_
        exact ⟨(q + 1, z ++ eqH y ++ (y.call ++ B [40] ++ joinT (B [44, 32]) 0 (y.args.map codeX) ++ B [41]) ++ B [59, 10]), ⟨hlt2, j2⟩, by (try simp only); omega, low_mk (Nat.le_of_ble_eq_true rfl) ⟨⟨rfl, rfl⟩, ⟨rfl, rfl⟩, ⟨rfl, rfl⟩, ⟨rfl, rfl⟩, ⟨rfl, rfl⟩, ⟨rfl, rfl⟩, ⟨rfl, rfl⟩, ⟨rfl, rfl⟩, ⟨rfl, rfl⟩, trivial⟩ ⟨⟨rfl, rfl⟩, ⟨rfl, rfl⟩, trivial⟩⟩
  · have ev : decide (0 < (n.vars.length : Int)) = false := decide_eq_false (by omega)
    repeat' first
      | refine Z1 ?_ | refine Z2 ?_ | refine Z5 ?_ | refine Zd ?_ | refine Ze ?_ | refine Zw ?_ | refine Zx ?_ | refine Zz (Zc (d1) ⟨rfl, rfl⟩) ?_ | refine Zz (Zc (d2) ⟨rfl, rfl⟩) ?_ | refine Zz (Zc (d3) ⟨rfl, rfl⟩) ?_
      | refine Zz (Zc (d4) ⟨rfl, rfl⟩) ?_ | refine Zz (Ul (a := B [110, 111, 100, 101, 32]) (b := n.name) (hb := by simp only [ByteArray.size_append]; omega) ⟨rfl, rfl⟩) ?_
      | refine Zz (Ul (a := B [110, 111, 100, 101, 32] ++ n.name) (b := B [40]) (hb := by simp only [ByteArray.size_append]; omega) ⟨rfl, rfl⟩) ?_
      | refine Zz (Ul (a := B [110, 111, 100, 101, 32] ++ n.name ++ B [40]) (b := declsX n.ins) (hb := by simp only [ByteArray.size_append]; omega) ⟨rfl, rfl⟩) ?_
      | refine Zz (Ul (a := B [110, 111, 100, 101, 32] ++ n.name ++ B [40] ++ declsX n.ins) (b := B [41, 32, 114, 101, 116, 117, 114, 110, 115, 32, 40]) (hb := by simp only [ByteArray.size_append]; omega) ⟨rfl, rfl⟩) ?_
      | refine Zz (Ul (a := B [110, 111, 100, 101, 32] ++ n.name ++ B [40] ++ declsX n.ins ++ B [41, 32, 114, 101, 116, 117, 114, 110, 115, 32, 40]) (b := declsX n.outs) (hb := by simp only [ByteArray.size_append]; omega) ⟨rfl, rfl⟩) ?_
      | refine Zz (Ul (a := B [110, 111, 100, 101, 32] ++ n.name ++ B [40] ++ declsX n.ins ++ B [41, 32, 114, 101, 116, 117, 114, 110, 115, 32, 40] ++ declsX n.outs) (b := B [41, 10]) (hb := by simp only [ByteArray.size_append]; omega) ⟨rfl, rfl⟩) ?_
      | refine Zz (Ul (a := u) (b := headX n) (hb := by omega) ⟨rfl, rfl⟩) ?_ | refine Zo ?_ | refine ok_seq ?_ | refine ok_draw X_mixed (by decide +kernel) ?_ | refine Zp ?_ | refine Zq ?_ | refine ok_block ?_ | refine ok_skip ?_
      | refine x_normal_then ?_
    rw [if_neg hv] at hv0
    subst hv0
    have i2 : u ++ headX n ++ B [108, 101, 116, 10] ++ (catT eqX n.eqs ++ (B [116, 101, 108, 10] ++ catT nodX (p.drop (k + 1)))) = full := by rw [← i2]; simp only [ba_assoc, nil_ba]
    repeat' first
      | refine Z1 ?_ | refine Z2 ?_ | refine Z5 ?_ | refine Ul (a := u ++ headX n) (b := B [108, 101, 116, 10]) (hb := by simp only [ByteArray.size_append]; omega) ?_ | refine Zd ?_ | refine Zo ?_ | refine ok_seq ?_ | refine ok_block ?_
    obtain ⟨R1, hR1⟩ : ∃ R1, R1 = B [116, 101, 108, 10] ++ catT nodX (p.drop (k + 1)) := ⟨_, rfl⟩
    rw [← hR1] at i2
    refine ok_for (ι := Nat × ByteArray) (fun x_ => envL [(1, .ref 0 0), (15, .d (.im (p.map eNod))), (16, vi p.length), (17, vi k), (5, .ref 1 0), (54, .d (.im (n.eqs.map eEqn))), (55, vi n.eqs.length), (3, vs x_.2), (56, vi x_.1)]) (fun x_ => stL [some (.var [.d (.im (p.map eNod))]), some (.var ((eNod n).map .d))]) (fun x_ => x_.1 ≤ n.eqs.length ∧ x_.2 ++ (catT eqX (n.eqs.drop x_.1) ++ R1) = full) (fun x_ => n.eqs.length - x_.1) (0, u ++ headX n ++ B [108, 101, 116, 10]) (⟨Nat.zero_le _, i2⟩) (weak_mk rfl ⟨.refl _, .refl _, .refl _, .refl _, .refl _, .refl _, .refl _, .refl _, .refl _, trivial⟩ ⟨⟨rfl, _, rfl, rfl, fun _ _ _ => .refl _⟩, ⟨rfl, _, rfl, rfl, fun _ _ _ => .refl _⟩, trivial⟩) (fun _ => Nat.le_refl 2) ?_
    clear i2
    rintro ⟨q, z⟩ ⟨j1, j2⟩
    simp only at j1 j2
    by_cases hql : q < n.eqs.length
    rotate_left
    · have ey : decide ((q : Int) < (n.eqs.length : Int)) = false := decide_eq_false (by omega)
      rw [List.drop_eq_nil_of_le (by omega)] at j2
      simp only [catT, nil_ba] at j2
      rw [hR1] at j2
      have x1 := sz_of j2 hf
      have j2 := nx_of j2
      repeat' first
        | refine Z1 ?_ | refine Z2 ?_ | refine Z3 ?_ | refine Z5 ?_ | refine Ul (a := z) (b := B [116, 101, 108, 10]) (hb := by omega) ?_ | refine Zf ?_ | refine Zo ?_ | refine ok_seq ?_ | refine ok_reg ?_ | refine Zq ?_ | refine ok_exit ?_
        | refine x_normal_then ?_ | refine x_exit_here ?_ | refine Zv ?_ | refine x_normal_block ?_
      exact ⟨(k + 1, z ++ B [116, 101, 108, 10]), ⟨hlt, j2⟩, by (try simp only); omega, low_mk (Nat.le_of_ble_eq_true rfl) ⟨⟨rfl, rfl⟩, ⟨rfl, rfl⟩, ⟨rfl, rfl⟩, ⟨rfl, rfl⟩, ⟨rfl, rfl⟩, trivial⟩ ⟨⟨rfl, rfl⟩, trivial⟩⟩
    obtain ⟨y, hy⟩ : ∃ y, n.eqs[q]? = some y := ⟨n.eqs[q], List.getElem?_eq_getElem hql⟩
    obtain ⟨hd2, hlt2⟩ := drop_some hy
    have ey : decide ((q : Int) < (n.eqs.length : Int)) = true := decide_eq_true (by omega)
    obtain ⟨l1, l2, l3, l4⟩ := g5 y (List.mem_of_getElem? hy)
    rw [hd2] at j2
    simp only [catT, eqX, ba_assoc] at j2
    have x1 := sz_of j2 hf
    have j2 := nx_of j2
    have x2 := sz_of j2 hf
    have j2 := nx_of j2
    have x3 := sz_of j2 hf
    have j2 := nx_of j2
    have x4 := x1
    unfold eqH at x4
    simp only [ByteArray.size_append] at x2 x3 x4
    by_cases hc : y.call = ⟨#[]⟩
    · have dc : decide (y.call = ⟨#[]⟩) = true := decide_eq_true hc
      have dc2 : decide (y.call = ByteArray.empty) = true := dc
      obtain ⟨t, gt⟩ := l3 hc
      have hb : eqBody y = textT t := by unfold eqBody codeX; rw [if_pos hc, good_I gt]
      rw [hb] at j2 x2 x3
      repeat' first
        | refine Z1 ?_ | refine Z2 ?_ | refine Z3 ?_ | refine Z5 ?_ | refine Zc (join_ok (B [44, 32]) y.lhs (by omega) (by omega)) ?_
        | refine Ul (a := B [32, 32]) (b := joinT (B [44, 32]) 0 y.lhs) (hb := by simp only [ByteArray.size_append]; omega) ?_
        | refine Ul (a := B [32, 32] ++ joinT (B [44, 32]) 0 y.lhs) (b := B [32, 61, 32]) (hb := by simp only [ByteArray.size_append]; omega) ?_ | refine Ul (a := z) (b := eqH y) (hb := by omega) ?_ | refine Zc (good_text gt (by omega)) ?_
        | refine Ul (a := z ++ eqH y) (b := textT t) (hb := by simp only [ByteArray.size_append]; omega) ?_ | refine Ul (a := z ++ eqH y ++ textT t) (b := B [59, 10]) (hb := by simp only [ByteArray.size_append]; omega) ?_ | refine Zd ?_
        | refine Ze ?_ | refine Zf ?_ | refine Zo ?_ | refine ok_seq ?_ | refine ok_reg ?_ | refine Zp ?_ | refine ok_block ?_ | refine ok_skip ?_ | refine x_normal_then ?_ | refine x_normal_block ?_
      exact ⟨(q + 1, z ++ eqH y ++ textT t ++ B [59, 10]), ⟨hlt2, j2⟩, by (try simp only); omega, low_mk (Nat.le_of_ble_eq_true rfl) ⟨⟨rfl, rfl⟩, ⟨rfl, rfl⟩, ⟨rfl, rfl⟩, ⟨rfl, rfl⟩, ⟨rfl, rfl⟩, ⟨rfl, rfl⟩, ⟨rfl, rfl⟩, ⟨rfl, rfl⟩, ⟨rfl, rfl⟩, trivial⟩ ⟨⟨rfl, rfl⟩, ⟨rfl, rfl⟩, trivial⟩⟩
    · have dc : decide (y.call = ⟨#[]⟩) = false := decide_eq_false hc
      have dc2 : decide (y.call = ByteArray.empty) = false := dc
      obtain ⟨a1, a2⟩ := l4 hc
      have hb : eqBody y = y.call ++ B [40] ++ joinT (B [44, 32]) 0 (y.args.map codeX) ++ B [41] := by unfold eqBody; rw [if_neg hc]; simp only [ba_assoc]
      rw [hb] at j2 x2 x3
      simp only [ByteArray.size_append] at x2 x3
      repeat' first
        | refine Z1 ?_ | refine Z2 ?_ | refine Z5 ?_ | refine Zc (join_ok (B [44, 32]) y.lhs (by omega) (by omega)) ?_ | refine Ul (a := B [32, 32]) (b := joinT (B [44, 32]) 0 y.lhs) (hb := by simp only [ByteArray.size_append]; omega) ?_
        | refine Ul (a := B [32, 32] ++ joinT (B [44, 32]) 0 y.lhs) (b := B [32, 61, 32]) (hb := by simp only [ByteArray.size_append]; omega) ?_ | refine Ul (a := z) (b := eqH y) (hb := by omega) ?_
        | refine op_bslice rfl rfl rfl rfl rfl rfl rfl ?_ | refine Zd ?_ | refine Ze ?_ | refine Zo ?_ | refine ok_seq ?_ | refine Zp ?_ | refine Zq ?_ | refine ok_block ?_ | refine ok_skip ?_ | refine x_normal_then ?_
      refine ok_forR (ι := Nat × List ByteArray) (fun x_ => envL [(1, .ref 0 0), (15, .d (.im (p.map eNod))), (16, vi p.length), (17, vi k), (5, .ref 1 0), (54, .d (.im (n.eqs.map eEqn))), (55, vi n.eqs.length), (3, vs (z ++ eqH y)), (56, vi q), (7, .ref 2 0), (8, .sl 3 4 0 x_.2.length), (80, .d (.im (y.args.map eItms))), (81, vi y.args.length), (82, vi x_.1)]) (fun x_ => stL [some (.var [.d (.im (p.map eNod))]), some (.var ((eNod n).map .d)), some (.var ((eEqn y).map .d)), some (.row 4 9 1 (im2 eStr x_.2)), none]) (fun x_ => x_.1 ≤ y.args.length ∧ x_.2 = (y.args.take x_.1).map codeX) (fun x_ => y.args.length - x_.1) (0, []) (⟨Nat.zero_le _, rfl⟩) Turn.refl (lowR_mk [(4, 3)] rfl rfl rfl ⟨⟨rfl, rfl⟩, ⟨rfl, rfl⟩, ⟨rfl, rfl⟩, ⟨rfl, rfl⟩, ⟨rfl, rfl⟩, ⟨rfl, rfl⟩, ⟨rfl, rfl⟩, ⟨rfl, rfl⟩, ⟨rfl, rfl⟩, ⟨rfl, rfl⟩, ⟨rfl, rfl⟩, ⟨rfl, rfl⟩, ⟨rfl, rfl⟩, ⟨rfl, rfl⟩, trivial⟩ ⟨⟨rfl, rfl⟩, ⟨rfl, rfl⟩, ⟨rfl, rfl⟩, ⟨renO_row rfl (by first | exact im2_ren _ _ _ | rfl), blt_lt rfl, im2_low _ _ _⟩, trivial⟩) ?_
      rintro ⟨m, L⟩ ⟨k1, k2⟩
      simp only at k1 k2
      have hL : L.length ≤ y.args.length := by rw [k2]; simp; omega
      by_cases hml : m < y.args.length
      · obtain ⟨a, ha⟩ : ∃ a, y.args[m]? = some a := ⟨y.args[m], List.getElem?_eq_getElem hml⟩
        obtain ⟨hd3, hlt3⟩ := drop_some ha
        have em : decide ((m : Int) < (y.args.length : Int)) = true := decide_eq_true (by omega)
        obtain ⟨t, gt⟩ := a2 a (List.mem_of_getElem? ha)
        have hct : textT t = codeX a := by unfold codeX; rw [good_I gt]
        have hsz := join_mem (sep := B [44, 32]) (i := 0) (List.mem_map_of_mem (f := codeX) (List.mem_of_getElem? ha))
        have gx := good_text gt (by rw [hct]; omega)
        rw [hct] at gx
        repeat' first
          | refine Z1 ?_ | refine Z2 ?_ | refine Z3 ?_ | refine Z4 ?_ | refine Z5 ?_ | refine Zc (gx) ?_ | refine Yl (e := eStr) (l := L) [codeX a] ?_ | refine Zd ?_ | refine Ze ?_ | refine Zf ?_ | refine Zo ?_ | refine ok_seq ?_
          | refine ok_reg ?_ | refine Zp ?_ | refine ok_block ?_ | refine ok_skip ?_ | refine x_normal_then ?_ | refine x_normal_block ?_
        exact ⟨(m + 1, L ++ [codeX a]), ⟨hlt3, by rw [k2, tk_push ha, List.map_append]; rfl⟩, by (try simp only); omega, lowR_mk [(4, 6)] rfl rfl rfl ⟨⟨rfl, rfl⟩, ⟨rfl, rfl⟩, ⟨rfl, rfl⟩, ⟨rfl, rfl⟩, ⟨rfl, rfl⟩, ⟨rfl, rfl⟩, ⟨rfl, rfl⟩, ⟨rfl, rfl⟩, ⟨rfl, rfl⟩, ⟨rfl, rfl⟩, ⟨rfl, rfl⟩, ⟨rfl, rfl⟩, ⟨rfl, rfl⟩, ⟨rfl, rfl⟩, trivial⟩ ⟨⟨rfl, rfl⟩, ⟨rfl, rfl⟩, ⟨rfl, rfl⟩, ⟨renO_row rfl (by first | exact im2_ren _ _ _ | rfl), blt_lt rfl, im2_low _ _ _⟩, trivial⟩⟩
      · have em : decide ((m : Int) < (y.args.length : Int)) = false := decide_eq_false (by omega)
        rw [List.take_of_length_le (by omega)] at k2
        subst k2
        repeat' first
          | refine Z1 ?_ | refine Z2 ?_ | refine Z3 ?_ | refine Z5 ?_
          | refine Ul (a := z ++ eqH y ++ (y.call ++ B [40] ++ joinT (B [44, 32]) 0 (y.args.map codeX) ++ B [41])) (b := B [59, 10]) (hb := by simp only [ByteArray.size_append]; omega) ?_ | refine Zf ?_ | refine Zw ?_ | refine Zx ?_
          | refine Zz (Ym (PFun.lendL (args := [.sl 3 4 0 (y.args.map codeX).length, vs (B [44, 32])]) (join_ok (B [44, 32]) (y.args.map codeX) (by simp; omega) (by omega)) ⟨.data (fz_im2 rfl rfl), afz_d _, trivial⟩) ⟨rfl, rfl⟩) ?_
          | refine Zz (Ul (a := y.call) (b := B [40]) (hb := by simp only [ByteArray.size_append]; omega) ⟨rfl, rfl⟩) ?_
          | refine Zz (Ul (a := y.call ++ B [40]) (b := joinT (B [44, 32]) 0 (y.args.map codeX)) (hb := by simp only [ByteArray.size_append]; omega) ⟨rfl, rfl⟩) ?_
          | refine Zz (Ul (a := y.call ++ B [40] ++ joinT (B [44, 32]) 0 (y.args.map codeX)) (b := B [41]) (hb := by simp only [ByteArray.size_append]; omega) ⟨rfl, rfl⟩) ?_
          | refine Zz (Ul (a := z ++ eqH y) (b := y.call ++ B [40] ++ joinT (B [44, 32]) 0 (y.args.map codeX) ++ B [41]) (hb := by simp only [ByteArray.size_append]; omega) ⟨rfl, rfl⟩) ?_ | refine Zo ?_ | refine ok_seq ?_ | refine ok_reg ?_
          | refine ok_draw X_mixed (by decide +kernel) ?_ | refine Zq ?_ | refine ok_exit ?_ | refine x_normal_then ?_ | refine x_exit_here ?_ | refine Zv ?_ | refine x_normal_block ?_
        exact ⟨(q + 1, z ++ eqH y ++ (y.call ++ B [40] ++ joinT (B [44, 32]) 0 (y.args.map codeX) ++ B [41]) ++ B [59, 10]), ⟨hlt2, j2⟩, by (try simp only); omega, low_mk (Nat.le_of_ble_eq_true rfl) ⟨⟨rfl, rfl⟩, ⟨rfl, rfl⟩, ⟨rfl, rfl⟩, ⟨rfl, rfl⟩, ⟨rfl, rfl⟩, ⟨rfl, rfl⟩, ⟨rfl, rfl⟩, ⟨rfl, rfl⟩, ⟨rfl, rfl⟩, trivial⟩ ⟨⟨rfl, rfl⟩, ⟨rfl, rfl⟩, trivial⟩⟩
end Go.Pm
