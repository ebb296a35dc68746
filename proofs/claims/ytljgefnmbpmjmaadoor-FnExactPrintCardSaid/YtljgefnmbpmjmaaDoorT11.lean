/- The program's text of a tree: every tree. -/
import Derived.Test.YtljgefnmbpmjmaaDoorT10
set_option linter.unusedVariables false
set_option linter.unusedSimpArgs false
namespace Go.Pm
attribute [local irreducible] AR Ok inBlock andThen endQ aoper
set_option maxHeartbeats 8000000
open Go.Proofs
def okV (x : Itm) : Prop := (1 ≤ x.op ∧ x.op ≤ 24) ∧ -9223372036854775807 ≤ x.val ∧ x.val ≤ 9223372036854775807
theorem len_two {α : Type} : ∀ {l : List α}, l.length = 2 → ∃ a b, l = [a, b]
  | [a, b], _ => ⟨a, b, rfl⟩
theorem len_three {α : Type} : ∀ {l : List α}, l.length = 3 → ∃ a b c, l = [a, b, c]
  | [a, b, c], _ => ⟨a, b, c, rfl⟩
theorem prt_at {t : Tm} (H : Prt t) {σ : St} {i r h : Nat} {u : ByteArray} (h1 : σ.obj i = some (.var [.ref i 0, .sl r h 0 u.size])) (h2 : σ.obj r = some (.row h 5 1 (byteRows u))) (h3 : (u ++ textT t).size ≤ 140737488355328) :
    AFun X 23 [.d (.ip (eTm t) 0), .ref i 0] σ fun E σ' => E = .ret (.tup []) ∧ σ' = wrUsed σ i r (u ++ textT t) := H h1 h2 h3
theorem print_tree : ∀ (N : Nat) (t : Tm), (flat t).length ≤ N → wfT t → (∀ x ∈ flat t, okV x) → Prt t
  | 0, .mk x i ks, hN, _, _ => by simp [flat] at hN
  | N + 1, .mk x i ks, hN, hw, hv => by
    have hw' : (ks.length : Int) = sarityI x.op ∧ wfL ks := by simpa only [wfT] using hw
    have IH : ∀ k ∈ ks, Prt k := fun k hk => print_tree N k (by have := flat_kid (x := x) (i := i) hk; omega) (wf_kid hw'.2 hk) fun y hy => hv y (mem_kid hk hy)
    obtain ⟨⟨o1, o2⟩, v1, v2⟩ := hv x mem_top
    refine prt_of fun u hs => ?_
    obtain ⟨full, hfull⟩ : ∃ full, u ++ textT (.mk x i ks) = full := ⟨_, rfl⟩
    rw [hfull] at hs ⊢
    rw [textT_mk] at hfull
    unfold textK at hfull
    rw [eTm_mk]
    refine afun_of Tryd.func23 rfl (by decide) Tryd.ntmps23 Tryd.results23 (by simp) ?_
    unfold bdO
    by_cases p1 : x.op = 1
    · have d1 : decide (x.op = 1) = true := decide_eq_true p1
      rw [if_pos p1] at hfull
      have z1 := sz_end hfull hs
      repeat' first
        | refine Z1 ?_ | refine Z2 ?_ | refine Z3 ?_ | refine Z5 ?_ | refine nil_check ?_ | refine Zc (itoa_ok x.val (by omega) v2) ?_ | refine Ym (write_ok (i := 0) (r := 1) (h := 2) (t := u) rfl rfl (itoaB x.val) z1) ?_ | refine nrm0 ?_
        | refine Zo ?_ | refine ok_reg ?_ | refine Zp ?_ | refine ok_block ?_ | refine x_normal_block ?_
      rw [← hfull]
      exact ⟨0, rfl, rfl, rfl⟩
    have d1 : decide (x.op = 1) = false := decide_eq_false p1
    rw [if_neg p1] at hfull
    by_cases p2 : x.op = 2
    · have d2 : decide (x.op = 2) = true := decide_eq_true p2
      rw [if_pos p2] at hfull
      have z1 := sz_end hfull hs
      repeat' first
        | refine Z1 ?_ | refine Z2 ?_ | refine Z3 ?_ | refine Z5 ?_ | refine nil_check ?_ | refine Zc (boolt_ok x.val) ?_ | refine Ym (write_ok (i := 0) (r := 1) (h := 2) (t := u) rfl rfl (boolT x.val) z1) ?_ | refine nrm0 ?_ | refine Zo ?_
        | refine ok_reg ?_ | refine Zp ?_ | refine Zq ?_ | refine ok_block ?_ | refine x_normal_block ?_
      rw [← hfull]
      exact ⟨0, rfl, rfl, rfl⟩
    have d2 : decide (x.op = 2) = false := decide_eq_false p2
    rw [if_neg p2] at hfull
    by_cases p3 : x.op = 3
    · have d3 : decide (x.op = 3) = true := decide_eq_true p3
      rw [if_pos p3] at hfull
      have z1 := sz_end hfull hs
      repeat' first
        | refine Z1 ?_ | refine Z2 ?_ | refine Z3 ?_ | refine Z5 ?_ | refine nil_check ?_ | refine Ym (write_ok (i := 0) (r := 1) (h := 2) (t := u) rfl rfl x.name z1) ?_ | refine nrm0 ?_ | refine Zo ?_ | refine ok_reg ?_ | refine Zp ?_
        | refine Zq ?_ | refine ok_block ?_ | refine x_normal_block ?_
      rw [← hfull]
      exact ⟨0, rfl, rfl, rfl⟩
    have d3 : decide (x.op = 3) = false := decide_eq_false p3
    rw [if_neg p3] at hfull
    by_cases p4 : x.op = 4
    · have d4 : decide (x.op = 4) = true := decide_eq_true p4
      have d5 : decide (x.op = 5) = false := decide_eq_false (by omega)
      rw [if_pos p4] at hfull
      have hlen : ks.length = 1 := by have := hw'.1; rw [p4] at this; have e : sarityI 4 = 1 := by decide
                                      omega
      obtain ⟨k0, rfl⟩ : ∃ k0, ks = [k0] := List.length_eq_one_iff.1 hlen
      rw [kid_at (k := k0) rfl] at hfull
      have I0 : Prt k0 := IH k0 (by simp)
      have z1 := sz_of hfull hs
      have hfull := nx_of hfull
      have z2 := sz_of hfull hs
      have hfull := nx_of hfull
      have z3 := sz_end hfull hs
      repeat' first
        | refine Z1 ?_ | refine Z2 ?_ | refine Z3 ?_ | refine Z5 ?_ | refine nil_check ?_ | refine Yej (e := eTp) (n := 0) 0 rfl rfl ?_ | refine Ym (write_ok (i := 0) (r := 1) (h := 2) (t := u) rfl rfl (B [40, 45, 32]) z1) ?_
        | refine Ym (prt_at I0 (i := 0) (r := 1) (h := 3) (u := u ++ B [40, 45, 32]) rfl rfl z2) ?_ | refine Ym (write_ok (i := 0) (r := 1) (h := 4) (t := u ++ B [40, 45, 32] ++ textT k0) rfl rfl (B [41]) z3) ?_ | refine nrm0 ?_ | refine Zo ?_
        | refine ok_seq ?_ | refine ok_reg ?_ | refine Zp ?_ | refine Zq ?_ | refine ok_block ?_ | refine ok_skip ?_ | refine x_normal_then ?_ | refine x_normal_block ?_
      rw [← hfull]
      exact ⟨2, rfl, rfl, rfl⟩
    have d4 : decide (x.op = 4) = false := decide_eq_false p4
    rw [if_neg p4] at hfull
    by_cases p5 : x.op = 5
    · have d5 : decide (x.op = 5) = true := decide_eq_true p5
      rw [if_pos p5] at hfull
      have hlen : ks.length = 1 := by
        have := hw'.1
        rw [p5] at this
        have e : sarityI 5 = 1 := by decide
        omega
      obtain ⟨k0, rfl⟩ : ∃ k0, ks = [k0] := List.length_eq_one_iff.1 hlen
      rw [kid_at (i := 0) (k := k0) rfl] at hfull
      have I0 : Prt k0 := IH k0 (by simp)
      have z0 := sz_of hfull hs
      have hfull := nx_of hfull
      have z1 := sz_of hfull hs
      have hfull := nx_of hfull
      have z2 := sz_end hfull hs
      repeat' first
        | refine Z1 ?_ | refine Z2 ?_ | refine Z3 ?_ | refine Z5 ?_ | refine nil_check ?_ | refine Yej (e := eTp) (n := 0) 0 rfl rfl ?_ | refine Ym (write_ok (i := 0) (r := 1) (h := 2) (t := u) rfl rfl (B [40, 110, 111, 116, 32]) z0) ?_
        | refine Ym (prt_at I0 (i := 0) (r := 1) (h := 3) (u := u ++ B [40, 110, 111, 116, 32]) rfl rfl z1) ?_ | refine Ym (write_ok (i := 0) (r := 1) (h := 4) (t := u ++ B [40, 110, 111, 116, 32] ++ textT k0) rfl rfl (B [41]) z2) ?_
        | refine nrm0 ?_ | refine Zo ?_ | refine ok_seq ?_ | refine ok_reg ?_ | refine Zp ?_ | refine Zq ?_ | refine ok_block ?_ | refine x_normal_block ?_
      rw [← hfull]
      exact ⟨2, rfl, rfl, rfl⟩
    have d5 : decide (x.op = 5) = false := decide_eq_false p5
    rw [if_neg p5] at hfull
    by_cases p20 : x.op = 20
    · have d20 : decide (x.op = 20) = true := decide_eq_true p20
      rw [if_pos p20] at hfull
      have hlen : ks.length = 3 := by
        have := hw'.1
        rw [p20] at this
        have e : sarityI 20 = 3 := by decide
        omega
      obtain ⟨k0, k1, k2, rfl⟩ : ∃ k0 k1 k2, ks = [k0, k1, k2] := len_three hlen
      rw [kid_at (i := 0) (k := k0) rfl] at hfull
      rw [kid_at (i := 1) (k := k1) rfl] at hfull
      rw [kid_at (i := 2) (k := k2) rfl] at hfull
      have I0 : Prt k0 := IH k0 (by simp)
      have I1 : Prt k1 := IH k1 (by simp)
      have I2 : Prt k2 := IH k2 (by simp)
      have z0 := sz_of hfull hs
      have hfull := nx_of hfull
      have z1 := sz_of hfull hs
      have hfull := nx_of hfull
      have z2 := sz_of hfull hs
      have hfull := nx_of hfull
      have z3 := sz_of hfull hs
      have hfull := nx_of hfull
      have z4 := sz_of hfull hs
      have hfull := nx_of hfull
      have z5 := sz_of hfull hs
      have hfull := nx_of hfull
      have z6 := sz_end hfull hs
      repeat' first
        | refine Z1 ?_ | refine Z2 ?_ | refine Z3 ?_ | refine Z5 ?_ | refine nil_check ?_ | refine Yej (e := eTp) (n := 0) 0 rfl rfl ?_ | refine Yej (e := eTp) (n := 1) 1 rfl rfl ?_ | refine Yej (e := eTp) (n := 2) 2 rfl rfl ?_
        | refine Ym (write_ok (i := 0) (r := 1) (h := 2) (t := u) rfl rfl (B [40, 105, 102, 32]) z0) ?_ | refine Ym (prt_at I0 (i := 0) (r := 1) (h := 3) (u := u ++ B [40, 105, 102, 32]) rfl rfl z1) ?_
        | refine Ym (write_ok (i := 0) (r := 1) (h := 4) (t := u ++ B [40, 105, 102, 32] ++ textT k0) rfl rfl (B [32, 116, 104, 101, 110, 32]) z2) ?_
        | refine Ym (prt_at I1 (i := 0) (r := 1) (h := 5) (u := u ++ B [40, 105, 102, 32] ++ textT k0 ++ B [32, 116, 104, 101, 110, 32]) rfl rfl z3) ?_
        | refine Ym (write_ok (i := 0) (r := 1) (h := 6) (t := u ++ B [40, 105, 102, 32] ++ textT k0 ++ B [32, 116, 104, 101, 110, 32] ++ textT k1) rfl rfl (B [32, 101, 108, 115, 101, 32]) z4) ?_
        | refine Ym (prt_at I2 (i := 0) (r := 1) (h := 7) (u := u ++ B [40, 105, 102, 32] ++ textT k0 ++ B [32, 116, 104, 101, 110, 32] ++ textT k1 ++ B [32, 101, 108, 115, 101, 32]) rfl rfl z5) ?_
        | refine Ym (write_ok (i := 0) (r := 1) (h := 8) (t := u ++ B [40, 105, 102, 32] ++ textT k0 ++ B [32, 116, 104, 101, 110, 32] ++ textT k1 ++ B [32, 101, 108, 115, 101, 32] ++ textT k2) rfl rfl (B [41]) z6) ?_ | refine nrm0 ?_
        | refine Zo ?_ | refine ok_seq ?_ | refine ok_reg ?_ | refine Zp ?_ | refine Zq ?_ | refine ok_block ?_ | refine x_normal_block ?_
      rw [← hfull]
      exact ⟨6, rfl, rfl, rfl⟩
    have d20 : decide (x.op = 20) = false := decide_eq_false p20
    rw [if_neg p20] at hfull
    by_cases p21 : x.op = 21
    · have d21 : decide (x.op = 21) = true := decide_eq_true p21
      rw [if_pos p21] at hfull
      have hlen : ks.length = 1 := by
        have := hw'.1
        rw [p21] at this
        have e : sarityI 21 = 1 := by decide
        omega
      obtain ⟨k0, rfl⟩ : ∃ k0, ks = [k0] := List.length_eq_one_iff.1 hlen
      rw [kid_at (i := 0) (k := k0) rfl] at hfull
      have I0 : Prt k0 := IH k0 (by simp)
      have z0 := sz_of hfull hs
      have hfull := nx_of hfull
      have z1 := sz_of hfull hs
      have hfull := nx_of hfull
      have z2 := sz_of hfull hs
      have hfull := nx_of hfull
      have z3 := sz_of hfull hs
      have hfull := nx_of hfull
      have z4 := sz_end hfull hs
      repeat' first
        | refine Z1 ?_ | refine Z2 ?_ | refine Z3 ?_ | refine Z5 ?_ | refine nil_check ?_ | refine Yej (e := eTp) (n := 0) 0 rfl rfl ?_ | refine Zc (itoa_ok x.val (by omega) v2) ?_
        | refine Ym (write_ok (i := 0) (r := 1) (h := 2) (t := u) rfl rfl (B [40]) z0) ?_ | refine Ym (write_ok (i := 0) (r := 1) (h := 3) (t := u ++ B [40]) rfl rfl (itoaB x.val) z1) ?_
        | refine Ym (write_ok (i := 0) (r := 1) (h := 4) (t := u ++ B [40] ++ itoaB x.val) rfl rfl (B [32, 102, 98, 121, 32]) z2) ?_
        | refine Ym (prt_at I0 (i := 0) (r := 1) (h := 5) (u := u ++ B [40] ++ itoaB x.val ++ B [32, 102, 98, 121, 32]) rfl rfl z3) ?_
        | refine Ym (write_ok (i := 0) (r := 1) (h := 6) (t := u ++ B [40] ++ itoaB x.val ++ B [32, 102, 98, 121, 32] ++ textT k0) rfl rfl (B [41]) z4) ?_ | refine nrm0 ?_ | refine Zo ?_ | refine ok_seq ?_ | refine ok_reg ?_ | refine Zp ?_
        | refine Zq ?_ | refine ok_block ?_ | refine ok_skip ?_ | refine x_normal_then ?_ | refine x_normal_block ?_
      rw [← hfull]
      exact ⟨4, rfl, rfl, rfl⟩
    have d21 : decide (x.op = 21) = false := decide_eq_false p21
    rw [if_neg p21] at hfull
    by_cases p22 : x.op = 22
    · have d22 : decide (x.op = 22) = true := decide_eq_true p22
      rw [if_pos p22] at hfull
      have hlen : ks.length = 1 := by
        have := hw'.1
        rw [p22] at this
        have e : sarityI 22 = 1 := by decide
        omega
      obtain ⟨k0, rfl⟩ : ∃ k0, ks = [k0] := List.length_eq_one_iff.1 hlen
      rw [kid_at (i := 0) (k := k0) rfl] at hfull
      have I0 : Prt k0 := IH k0 (by simp)
      have z0 := sz_of hfull hs
      have hfull := nx_of hfull
      have z1 := sz_of hfull hs
      have hfull := nx_of hfull
      have z2 := sz_of hfull hs
      have hfull := nx_of hfull
      have z3 := sz_of hfull hs
      have hfull := nx_of hfull
      have z4 := sz_end hfull hs
      repeat' first
        | refine Z1 ?_ | refine Z2 ?_ | refine Z3 ?_ | refine Z5 ?_ | refine nil_check ?_ | refine Yej (e := eTp) (n := 0) 0 rfl rfl ?_ | refine Zc (boolt_ok x.val) ?_
        | refine Ym (write_ok (i := 0) (r := 1) (h := 2) (t := u) rfl rfl (B [40]) z0) ?_ | refine Ym (write_ok (i := 0) (r := 1) (h := 3) (t := u ++ B [40]) rfl rfl (boolT x.val) z1) ?_
        | refine Ym (write_ok (i := 0) (r := 1) (h := 4) (t := u ++ B [40] ++ boolT x.val) rfl rfl (B [32, 102, 98, 121, 32]) z2) ?_
        | refine Ym (prt_at I0 (i := 0) (r := 1) (h := 5) (u := u ++ B [40] ++ boolT x.val ++ B [32, 102, 98, 121, 32]) rfl rfl z3) ?_
        | refine Ym (write_ok (i := 0) (r := 1) (h := 6) (t := u ++ B [40] ++ boolT x.val ++ B [32, 102, 98, 121, 32] ++ textT k0) rfl rfl (B [41]) z4) ?_ | refine nrm0 ?_ | refine Zo ?_ | refine ok_seq ?_ | refine ok_reg ?_ | refine Zp ?_
        | refine Zq ?_ | refine ok_block ?_ | refine x_normal_block ?_
      rw [← hfull]
      exact ⟨4, rfl, rfl, rfl⟩
    have d22 : decide (x.op = 22) = false := decide_eq_false p22
    rw [if_neg p22] at hfull
    by_cases p23 : x.op = 23
    · have d23 : decide (x.op = 23) = true := decide_eq_true p23
      rw [if_pos p23] at hfull
      have hlen : ks.length = 1 := by
        have := hw'.1
        rw [p23] at this
        have e : sarityI 23 = 1 := by decide
        omega
      obtain ⟨k0, rfl⟩ : ∃ k0, ks = [k0] := List.length_eq_one_iff.1 hlen
      rw [kid_at (i := 0) (k := k0) rfl] at hfull
      have I0 : Prt k0 := IH k0 (by simp)
      by_cases pv : x.val = 1
      · have dv : decide (x.val = 1) = true := decide_eq_true pv
        rw [if_pos pv] at hfull
        have z0 := sz_of hfull hs
        have hfull := nx_of hfull
        have z1 := sz_of hfull hs
        have hfull := nx_of hfull
        have z2 := sz_of hfull hs
        have hfull := nx_of hfull
        have z3 := sz_end hfull hs
        have hb30 : (x.name ++ B [41]).size ≤ 9223372036854775807 := by
          have q := z3
          simp only [ByteArray.size_append] at q ⊢
          omega
        repeat' first
          | refine Z1 ?_ | refine Z2 ?_ | refine Z3 ?_ | refine Z5 ?_ | refine nil_check ?_ | refine Yej (e := eTp) (n := 0) 0 rfl rfl ?_ | refine Ym (write_ok (i := 0) (r := 1) (h := 2) (t := u) rfl rfl (B [40]) z0) ?_
          | refine Ym (prt_at I0 (i := 0) (r := 1) (h := 3) (u := u ++ B [40]) rfl rfl z1) ?_ | refine Ym (write_ok (i := 0) (r := 1) (h := 4) (t := u ++ B [40] ++ textT k0) rfl rfl (B [32, 119, 104, 101, 110, 32]) z2) ?_
          | refine Ul (a := x.name) (b := B [41]) (hb := hb30) ?_ | refine Ym (write_ok (i := 0) (r := 1) (h := 5) (t := u ++ B [40] ++ textT k0 ++ B [32, 119, 104, 101, 110, 32]) rfl rfl (x.name ++ B [41]) z3) ?_ | refine nrm0 ?_
          | refine Zo ?_ | refine ok_seq ?_ | refine ok_reg ?_ | refine Zp ?_ | refine Zq ?_ | refine ok_block ?_ | refine x_normal_block ?_
        rw [← hfull]
        exact ⟨3, rfl, rfl, rfl⟩
      · have dv : decide (x.val = 1) = false := decide_eq_false pv
        rw [if_neg pv] at hfull
        have z0 := sz_of hfull hs
        have hfull := nx_of hfull
        have z1 := sz_of hfull hs
        have hfull := nx_of hfull
        have z2 := sz_of hfull hs
        have hfull := nx_of hfull
        have z3 := sz_end hfull hs
        have hb30 : (x.name ++ B [41]).size ≤ 9223372036854775807 := by
          have q := z3
          simp only [ByteArray.size_append] at q ⊢
          omega
        repeat' first
          | refine Z1 ?_ | refine Z2 ?_ | refine Z3 ?_ | refine Z5 ?_ | refine nil_check ?_ | refine Yej (e := eTp) (n := 0) 0 rfl rfl ?_ | refine Ym (write_ok (i := 0) (r := 1) (h := 2) (t := u) rfl rfl (B [40]) z0) ?_
          | refine Ym (prt_at I0 (i := 0) (r := 1) (h := 3) (u := u ++ B [40]) rfl rfl z1) ?_ | refine Ym (write_ok (i := 0) (r := 1) (h := 4) (t := u ++ B [40] ++ textT k0) rfl rfl (B [32, 119, 104, 101, 110, 111, 116, 32]) z2) ?_
          | refine Ul (a := x.name) (b := B [41]) (hb := hb30) ?_ | refine Ym (write_ok (i := 0) (r := 1) (h := 5) (t := u ++ B [40] ++ textT k0 ++ B [32, 119, 104, 101, 110, 111, 116, 32]) rfl rfl (x.name ++ B [41]) z3) ?_ | refine nrm0 ?_
          | refine Zo ?_ | refine ok_seq ?_ | refine ok_reg ?_ | refine Zp ?_ | refine Zq ?_ | refine ok_block ?_ | refine x_normal_block ?_
        rw [← hfull]
        exact ⟨3, rfl, rfl, rfl⟩
    have d23 : decide (x.op = 23) = false := decide_eq_false p23
    rw [if_neg p23] at hfull
    by_cases p24 : x.op = 24
    · have d24 : decide (x.op = 24) = true := decide_eq_true p24
      rw [if_pos p24] at hfull
      have hlen : ks.length = 2 := by
        have := hw'.1
        rw [p24] at this
        have e : sarityI 24 = 2 := by decide
        omega
      obtain ⟨k0, k1, rfl⟩ : ∃ k0 k1, ks = [k0, k1] := len_two hlen
      rw [kid_at (i := 0) (k := k0) rfl] at hfull
      rw [kid_at (i := 1) (k := k1) rfl] at hfull
      have I0 : Prt k0 := IH k0 (by simp)
      have I1 : Prt k1 := IH k1 (by simp)
      have hfull : u ++ ((B [40, 109, 101, 114, 103, 101, 32] ++ x.name ++ B [32]) ++ (textT k0 ++ (B [32] ++ (textT k1 ++ B [41])))) = full := by rw [← hfull]; simp only [ba_assoc]
      have z0 := sz_of hfull hs
      have hfull := nx_of hfull
      have hb00 : (B [40, 109, 101, 114, 103, 101, 32] ++ x.name).size ≤ 9223372036854775807 := by
        have q := z0
        simp only [ByteArray.size_append] at q ⊢
        omega
      have hb01 : (B [40, 109, 101, 114, 103, 101, 32] ++ x.name ++ B [32]).size ≤ 9223372036854775807 := by
        have q := z0
        simp only [ByteArray.size_append] at q ⊢
        omega
      have z1 := sz_of hfull hs
      have hfull := nx_of hfull
      have z2 := sz_of hfull hs
      have hfull := nx_of hfull
      have z3 := sz_of hfull hs
      have hfull := nx_of hfull
      have z4 := sz_end hfull hs
      repeat' first
        | refine Z1 ?_ | refine Z2 ?_ | refine Z3 ?_ | refine Z5 ?_ | refine nil_check ?_ | refine Yej (e := eTp) (n := 0) 0 rfl rfl ?_ | refine Yej (e := eTp) (n := 1) 1 rfl rfl ?_
        | refine Ul (a := B [40, 109, 101, 114, 103, 101, 32]) (b := x.name) (hb := hb00) ?_ | refine Ul (a := B [40, 109, 101, 114, 103, 101, 32] ++ x.name) (b := B [32]) (hb := hb01) ?_
        | refine Ym (write_ok (i := 0) (r := 1) (h := 2) (t := u) rfl rfl (B [40, 109, 101, 114, 103, 101, 32] ++ x.name ++ B [32]) z0) ?_
        | refine Ym (prt_at I0 (i := 0) (r := 1) (h := 3) (u := u ++ (B [40, 109, 101, 114, 103, 101, 32] ++ x.name ++ B [32])) rfl rfl z1) ?_
        | refine Ym (write_ok (i := 0) (r := 1) (h := 4) (t := u ++ (B [40, 109, 101, 114, 103, 101, 32] ++ x.name ++ B [32]) ++ textT k0) rfl rfl (B [32]) z2) ?_
        | refine Ym (prt_at I1 (i := 0) (r := 1) (h := 5) (u := u ++ (B [40, 109, 101, 114, 103, 101, 32] ++ x.name ++ B [32]) ++ textT k0 ++ B [32]) rfl rfl z3) ?_
        | refine Ym (write_ok (i := 0) (r := 1) (h := 6) (t := u ++ (B [40, 109, 101, 114, 103, 101, 32] ++ x.name ++ B [32]) ++ textT k0 ++ B [32] ++ textT k1) rfl rfl (B [41]) z4) ?_ | refine nrm0 ?_ | refine Zo ?_ | refine ok_seq ?_
        | refine ok_reg ?_ | refine Zp ?_ | refine Zq ?_ | refine ok_block ?_ | refine x_normal_block ?_
      rw [← hfull]
      exact ⟨4, rfl, rfl, rfl⟩
    have d24 : decide (x.op = 24) = false := decide_eq_false p24
    rw [if_neg p24] at hfull
    have hlen : ks.length = 2 := by
      have := hw'.1
      have e : sarityI x.op = 2 := by unfold sarityI; rw [if_neg (by omega), if_neg (by omega), if_pos (by omega)]
      omega
    obtain ⟨k0, k1, rfl⟩ : ∃ k0 k1, ks = [k0, k1] := len_two hlen
    rw [kid_at (i := 0) (k := k0) rfl] at hfull
    rw [kid_at (i := 1) (k := k1) rfl] at hfull
    have I0 : Prt k0 := IH k0 (by simp)
    have I1 : Prt k1 := IH k1 (by simp)
    have hfull : u ++ (B [40] ++ (textT k0 ++ ((B [32] ++ otFind x.op ++ B [32]) ++ (textT k1 ++ B [41])))) = full := by rw [← hfull]; simp only [ba_assoc]
    have z0 := sz_of hfull hs
    have hfull := nx_of hfull
    have z1 := sz_of hfull hs
    have hfull := nx_of hfull
    have z2 := sz_of hfull hs
    have hfull := nx_of hfull
    have hb20 : (B [32] ++ otFind x.op).size ≤ 9223372036854775807 := by
      have q := z2
      simp only [ByteArray.size_append] at q ⊢
      omega
    have hb21 : (B [32] ++ otFind x.op ++ B [32]).size ≤ 9223372036854775807 := by
      have q := z2
      simp only [ByteArray.size_append] at q ⊢
      omega
    have z3 := sz_of hfull hs
    have hfull := nx_of hfull
    have z4 := sz_end hfull hs
    repeat' first
      | refine Z1 ?_ | refine Z2 ?_ | refine Z5 ?_ | refine nil_check ?_ | refine Yej (e := eTp) (n := 0) 0 rfl rfl ?_ | refine Ym (write_ok (i := 0) (r := 1) (h := 2) (t := u) rfl rfl (B [40]) z0) ?_
      | refine Ym (prt_at I0 (i := 0) (r := 1) (h := 3) (u := u ++ B [40]) rfl rfl z1) ?_ | refine Zo ?_ | refine ok_seq ?_ | refine ok_reg ?_ | refine Zq ?_ | refine ok_block ?_
    refine ok_drawE (fun _ => False) [10] X_mixed (by decide +kernel) ?_
    repeat' first
      | refine Wa ?_ | refine Wn ?_
    refine Wq (fun σ' _ => Uk (n := x.op) ⟨rfl, rfl⟩) ?_
    refine Wq (fun σ' _ => Ul (a := B [32]) (b := otFind x.op) (hK := ⟨rfl, rfl⟩) (hb := hb20)) ?_
    refine Wq (fun σ' _ => Ul (a := B [32] ++ otFind x.op) (b := B [32]) (hK := ⟨rfl, rfl⟩) (hb := hb21)) ?_
    refine We (Ym (write_ok (i := 0) (r := 1) (h := 4) (t := u ++ B [40] ++ textT k0) rfl rfl (B [32] ++ otFind x.op ++ B [32]) z2) ⟨rfl, rfl⟩) (.inl rfl) ?_
    first | refine Wx ?_ | refine Wy ?_
    repeat' first
      | refine Z1 ?_ | refine Z2 ?_ | refine Z3 ?_ | refine Z5 ?_ | refine nil_check ?_ | refine Yej (e := eTp) (n := 1) 1 rfl rfl ?_
      | refine Ym (prt_at I1 (i := 0) (r := 1) (h := 5) (u := u ++ B [40] ++ textT k0 ++ (B [32] ++ otFind x.op ++ B [32])) rfl rfl z3) ?_
      | refine Ym (write_ok (i := 0) (r := 1) (h := 6) (t := u ++ B [40] ++ textT k0 ++ (B [32] ++ otFind x.op ++ B [32]) ++ textT k1) rfl rfl (B [41]) z4) ?_ | refine nrm0 ?_ | refine Zo ?_ | refine ok_reg ?_ | refine x_normal_block ?_
    rw [← hfull]
    exact ⟨4, rfl, rfl, rfl⟩
end Go.Pm
/- The specification's text of a tree. -/
set_option linter.unusedVariables false
set_option linter.unusedSimpArgs false
namespace Go.Pm
attribute [local irreducible] AR Ok inBlock andThen endQ aoper
set_option maxHeartbeats 8000000
open Go.Proofs
theorem ot_sign {op : Int} (h : 6 ≤ op ∧ op ≤ 19) : signF op 5 1 = otFind op := by
  have : op = 6 ∨ op = 7 ∨ op = 8 ∨ op = 9 ∨ op = 10 ∨ op = 11 ∨ op = 12 ∨ op = 13 ∨ op = 14 ∨ op = 15 ∨ op = 16 ∨ op = 17 ∨ op = 18 ∨ op = 19 := by omega
  rcases this with rfl | rfl | rfl | rfl | rfl | rfl | rfl | rfl | rfl | rfl | rfl | rfl | rfl | rfl <;> decide
theorem begin_ok (l : List Itm) (hll : l.length ≤ 1048576) (t : Tm) (hw : wfT t) (P R : List Itm) (hl : l = P ++ (flat t ++ R)) (e : Int) (he : e = ((P.length + (flat t).length : Nat) : Int)) (v : Int) (hv : v = ((P.length : Nat) : Int)) : PFun X 43 [.d (.im (l.map eItm)), vi e] (vi v) := by
  subst he
  subst hv
  have hb := begin_tree hw hl
  have hle : P.length + (flat t).length ≤ l.length := by rw [hl]; simp only [List.length_append]; omega
  have := sbegin_ok l _ hle hll
  rw [hb] at this
  exact this
theorem stext_ok (l : List Itm) (hll : l.length ≤ 1048576) : ∀ (N : Nat) (t : Tm), (flat t).length ≤ N → wfT t → (∀ x ∈ flat t, okV x ∧ x.name.size ≤ 1048576) → ∀ (P R : List Itm), l = P ++ (flat t ++ R) → ∀ e : Int, e = ((P.length + (flat t).length : Nat) : Int) → (textT t).size ≤ 140737488355328 → PFun X 16 [.d (.im (l.map eItm)), vi e] (vs (textT t))
  | 0, .mk x i ks, hN, _, _ => by simp [flat] at hN
  | N + 1, .mk x i ks, hN, hw, hv => by
    intro P R hl e he hs
    have hw' : (ks.length : Int) = sarityI x.op ∧ wfL ks := by simpa only [wfT] using hw
    have IH : ∀ k ∈ ks, ∀ (P R : List Itm), l = P ++ (flat k ++ R) → ∀ e : Int, e = ((P.length + (flat k).length : Nat) : Int) → (textT k).size ≤ 140737488355328 → PFun X 16 [.d (.im (l.map eItm)), vi e] (vs (textT k)) :=
      fun k hk => stext_ok l hll N k (by have := flat_kid (x := x) (i := i) hk; omega) (wf_kid hw'.2 hk) fun y hy => hv y (mem_kid hk hy)
    obtain ⟨⟨⟨o1, o2⟩, v1, v2⟩, vn⟩ := hv x mem_top
    have hiz := itoaB_len x.val (by omega) v2
    have hbz : (boolT x.val).size ≤ 5 := by unfold boolT; split <;> decide
    have hfull : textK x (textTs ks) = textK x (textTs ks) := rfl
    conv at hfull => lhs; unfold textK
    have hle : e ≤ (l.length : Int) := by rw [he, hl]; simp only [List.length_append]; omega
    simp only [flat, List.append_assoc] at hl
    obtain ⟨j0, hj⟩ : ∃ j0, j0 = P.length + (flatL ks).length := ⟨_, rfl⟩
    have he0 : e = ((P.length + ((flatL ks).length + 1) : Nat) : Int) := by rw [he]; simp only [flat, List.length_append, List.length_singleton]
    have hj0 : e - 1 = (j0 : Int) := by rw [hj, he0]; omega
    have hx0 : l[j0]? = some x := by
      rw [hl, hj, List.getElem?_append_right (by omega), Nat.add_sub_cancel_left, List.getElem?_append_right (by omega), Nat.sub_self]
      rfl
    clear he
    have he := he0
    clear hj he0
    refine pfun_of Tryd.func16 rfl (by decide) Tryd.ntmps16 Tryd.results16 (by simp) rfl rfl ?_
    by_cases p1 : x.op = 1
    · have d1 : decide (x.op = 1) = true := decide_eq_true p1
      rw [if_pos p1] at hfull
      rw [textT_mk, ← hfull]
      repeat' first
        | refine Z1 ?_ | refine Z2 ?_ | refine Z5 ?_ | refine Yej (e := eItm) (n := e - 1) j0 hj0 hx0 ?_ | refine Zc (dec_ok x.val v1 v2) ?_ | refine Zg ?_ | refine Zo ?_ | refine ok_seq ?_ | refine Zp ?_ | refine ok_block ?_
        | refine ok_ret ?_ | refine x_ret_then ?_ | refine x_ret_block ?_ | refine Zt ?_
      rfl
    have d1 : decide (x.op = 1) = false := decide_eq_false p1
    rw [if_neg p1] at hfull
    by_cases p2 : x.op = 2
    · have d2 : decide (x.op = 2) = true := decide_eq_true p2
      rw [if_pos p2] at hfull
      rw [textT_mk, ← hfull]
      repeat' first
        | refine Z1 ?_ | refine Z2 ?_ | refine Z5 ?_ | refine Yej (e := eItm) (n := e - 1) j0 hj0 hx0 ?_ | refine Zc (flag_ok x.val) ?_ | refine Zg ?_ | refine Zo ?_ | refine ok_seq ?_ | refine Zp ?_ | refine Zq ?_ | refine ok_block ?_
        | refine ok_ret ?_ | refine x_ret_then ?_ | refine x_ret_block ?_ | refine Zt ?_
      rfl
    have d2 : decide (x.op = 2) = false := decide_eq_false p2
    rw [if_neg p2] at hfull
    by_cases p3 : x.op = 3
    · have d3 : decide (x.op = 3) = true := decide_eq_true p3
      rw [if_pos p3] at hfull
      rw [textT_mk, ← hfull]
      repeat' first
        | refine Z1 ?_ | refine Z2 ?_ | refine Z5 ?_ | refine Yej (e := eItm) (n := e - 1) j0 hj0 hx0 ?_ | refine Zg ?_ | refine Zo ?_ | refine ok_seq ?_ | refine Zp ?_ | refine Zq ?_ | refine ok_block ?_ | refine ok_ret ?_
        | refine x_ret_then ?_ | refine x_ret_block ?_ | refine Zt ?_
      rfl
    have d3 : decide (x.op = 3) = false := decide_eq_false p3
    rw [if_neg p3] at hfull
    by_cases p4 : x.op = 4
    · have d4 : decide (x.op = 4) = true := decide_eq_true p4
      rw [if_pos p4] at hfull
      have hlen : ks.length = 1 := by
        have := hw'.1
        rw [p4] at this
        have e : sarityI 4 = 1 := by decide
        omega
      obtain ⟨k0, rfl⟩ : ∃ k0, ks = [k0] := List.length_eq_one_iff.1 hlen
      rw [kid_at (i := 0) (k := k0) rfl] at hfull
      have W0 : wfT k0 := wf_kid hw'.2 (by simp)
      have G0 := fun P R hl e he hz => IH k0 (by simp) P R hl e he hz
      simp only [flatL, List.length_append, List.length_nil, Nat.add_zero, List.append_nil, List.append_assoc] at hl he
      have hT : B [40, 45, 32] ++ textT k0 ++ B [41] = textT (.mk x i [k0]) := by rw [textT_mk, ← hfull]; simp only [ba_assoc]
      have hZ := congrArg ByteArray.size hT
      simp only [ByteArray.size_append] at hZ
      have C0 := G0 (P) ([x] ++ R) (by first | exact hl | (rw [hl]; done) | (rw [hl]; simp only [List.append_assoc])) (e - 1) (by first | omega | (simp only [List.length_append]; omega) | (simp only [List.length_append]; done)) (by omega)
      have u1 : (B [40, 45, 32] ++ textT k0).size ≤ 9223372036854775807 := by simp only [ByteArray.size_append]; omega
      have u2 : (B [40, 45, 32] ++ textT k0 ++ B [41]).size ≤ 9223372036854775807 := by simp only [ByteArray.size_append]; omega
      repeat' first
        | refine Z1 ?_ | refine Z2 ?_ | refine Z5 ?_ | refine Yej (e := eItm) (n := e - 1) j0 hj0 hx0 ?_ | refine Zc (C0) ?_ | refine Ul (a := B [40, 45, 32]) (b := textT k0) (hb := u1) ?_
        | refine Ul (a := B [40, 45, 32] ++ textT k0) (b := B [41]) (hb := u2) ?_ | refine Zg ?_ | refine Zo ?_ | refine ok_seq ?_ | refine Zp ?_ | refine Zq ?_ | refine ok_block ?_ | refine ok_ret ?_ | refine x_ret_then ?_
        | refine x_ret_block ?_ | refine Zt ?_
      exact congrArg (fun v => AEnd.ret (vs v)) hT
    have d4 : decide (x.op = 4) = false := decide_eq_false p4
    rw [if_neg p4] at hfull
    by_cases p5 : x.op = 5
    · have d5 : decide (x.op = 5) = true := decide_eq_true p5
      rw [if_pos p5] at hfull
      have hlen : ks.length = 1 := by
        have := hw'.1
        rw [p5] at this
        have e : sarityI 5 = 1 := by decide
        omega
      obtain ⟨k0, rfl⟩ : ∃ k0, ks = [k0] := List.length_eq_one_iff.1 hlen
      rw [kid_at (i := 0) (k := k0) rfl] at hfull
      have W0 : wfT k0 := wf_kid hw'.2 (by simp)
      have G0 := fun P R hl e he hz => IH k0 (by simp) P R hl e he hz
      simp only [flatL, List.length_append, List.length_nil, Nat.add_zero, List.append_nil, List.append_assoc] at hl he
      have hT : B [40, 110, 111, 116, 32] ++ textT k0 ++ B [41] = textT (.mk x i [k0]) := by rw [textT_mk, ← hfull]; simp only [ba_assoc]
      have hZ := congrArg ByteArray.size hT
      simp only [ByteArray.size_append] at hZ
      have C0 := G0 (P) ([x] ++ R) (by first | exact hl | (rw [hl]; done) | (rw [hl]; simp only [List.append_assoc])) (e - 1) (by first | omega | (simp only [List.length_append]; omega) | (simp only [List.length_append]; done)) (by omega)
      have u1 : (B [40, 110, 111, 116, 32] ++ textT k0).size ≤ 9223372036854775807 := by simp only [ByteArray.size_append]; omega
      have u2 : (B [40, 110, 111, 116, 32] ++ textT k0 ++ B [41]).size ≤ 9223372036854775807 := by simp only [ByteArray.size_append]; omega
      repeat' first
        | refine Z1 ?_ | refine Z2 ?_ | refine Z5 ?_ | refine Yej (e := eItm) (n := e - 1) j0 hj0 hx0 ?_ | refine Zc (C0) ?_ | refine Ul (a := B [40, 110, 111, 116, 32]) (b := textT k0) (hb := u1) ?_
        | refine Ul (a := B [40, 110, 111, 116, 32] ++ textT k0) (b := B [41]) (hb := u2) ?_ | refine Zg ?_ | refine Zo ?_ | refine ok_seq ?_ | refine Zp ?_ | refine Zq ?_ | refine ok_block ?_ | refine ok_ret ?_ | refine x_ret_then ?_
        | refine x_ret_block ?_ | refine Zt ?_
      exact congrArg (fun v => AEnd.ret (vs v)) hT
    have d5 : decide (x.op = 5) = false := decide_eq_false p5
    rw [if_neg p5] at hfull
    by_cases p20 : x.op = 20
    · have d20 : decide (x.op = 20) = true := decide_eq_true p20
      have d21 : decide (x.op = 21) = false := decide_eq_false (by omega)
      have d22 : decide (x.op = 22) = false := decide_eq_false (by omega)
      have d23 : decide (x.op = 23) = false := decide_eq_false (by omega)
      rw [if_pos p20] at hfull
      have hlen : ks.length = 3 := by
        have := hw'.1
        rw [p20] at this
        have e : sarityI 20 = 3 := by decide
        omega
      obtain ⟨k0, k1, k2, rfl⟩ : ∃ k0 k1 k2, ks = [k0, k1, k2] := len_three hlen
      rw [kid_at (i := 0) (k := k0) rfl] at hfull
      rw [kid_at (i := 1) (k := k1) rfl] at hfull
      rw [kid_at (i := 2) (k := k2) rfl] at hfull
      have W0 : wfT k0 := wf_kid hw'.2 (by simp)
      have W1 : wfT k1 := wf_kid hw'.2 (by simp)
      have W2 : wfT k2 := wf_kid hw'.2 (by simp)
      have G0 := fun P R hl e he hz => IH k0 (by simp) P R hl e he hz
      have G1 := fun P R hl e he hz => IH k1 (by simp) P R hl e he hz
      have G2 := fun P R hl e he hz => IH k2 (by simp) P R hl e he hz
      simp only [flatL, List.length_append, List.length_nil, Nat.add_zero, List.append_nil, List.append_assoc] at hl he
      have hT : B [40, 105, 102, 32] ++ textT k0 ++ B [32, 116, 104, 101, 110, 32] ++ textT k1 ++ B [32, 101, 108, 115, 101, 32] ++ textT k2 ++ B [41] = textT (.mk x i [k0, k1, k2]) := by rw [textT_mk, ← hfull]; simp only [ba_assoc]
      have hZ := congrArg ByteArray.size hT
      simp only [ByteArray.size_append] at hZ
      have C0 := G0 (P) (flat k1 ++ (flat k2 ++ ([x] ++ R))) (by first | exact hl | (rw [hl]; done) | (rw [hl]; simp only [List.append_assoc])) (((P.length + (flat k0).length : Nat) : Int)) (by first | omega | (simp only [List.length_append]; omega) | (simp only [List.length_append]; done)) (by omega)
      have C1 := G1 (P ++ flat k0) (flat k2 ++ ([x] ++ R)) (by first | exact hl | (rw [hl]; done) | (rw [hl]; simp only [List.append_assoc])) (((P.length + (flat k0).length + (flat k1).length : Nat) : Int)) (by first | omega | (simp only [List.length_append]; omega) | (simp only [List.length_append]; done)) (by omega)
      have C2 := G2 (P ++ flat k0 ++ flat k1) ([x] ++ R) (by first | exact hl | (rw [hl]; done) | (rw [hl]; simp only [List.append_assoc])) (e - 1) (by first | omega | (simp only [List.length_append]; omega) | (simp only [List.length_append]; done)) (by omega)
      have S2 := begin_ok l hll k2 W2 (P ++ flat k0 ++ flat k1) ([x] ++ R) (by first | exact hl | (rw [hl]; done) | (rw [hl]; simp only [List.append_assoc])) (e - 1) (by first | omega | (simp only [List.length_append]; omega) | (simp only [List.length_append]; done)) (((P.length + (flat k0).length + (flat k1).length : Nat) : Int)) (by first | rfl | simp only [List.length_append])
      have S1 := begin_ok l hll k1 W1 (P ++ flat k0) (flat k2 ++ ([x] ++ R)) (by first | exact hl | (rw [hl]; done) | (rw [hl]; simp only [List.append_assoc])) (((P.length + (flat k0).length + (flat k1).length : Nat) : Int)) (by first | omega | (simp only [List.length_append]; omega) | (simp only [List.length_append]; done)) (((P.length + (flat k0).length : Nat) : Int)) (by first | rfl | simp only [List.length_append])
      have u1 : (B [40, 105, 102, 32] ++ textT k0).size ≤ 9223372036854775807 := by simp only [ByteArray.size_append]; omega
      have u2 : (B [40, 105, 102, 32] ++ textT k0 ++ B [32, 116, 104, 101, 110, 32]).size ≤ 9223372036854775807 := by simp only [ByteArray.size_append]; omega
      have u3 : (B [40, 105, 102, 32] ++ textT k0 ++ B [32, 116, 104, 101, 110, 32] ++ textT k1).size ≤ 9223372036854775807 := by simp only [ByteArray.size_append]; omega
      have u4 : (B [40, 105, 102, 32] ++ textT k0 ++ B [32, 116, 104, 101, 110, 32] ++ textT k1 ++ B [32, 101, 108, 115, 101, 32]).size ≤ 9223372036854775807 := by simp only [ByteArray.size_append]; omega
      have u5 : (B [40, 105, 102, 32] ++ textT k0 ++ B [32, 116, 104, 101, 110, 32] ++ textT k1 ++ B [32, 101, 108, 115, 101, 32] ++ textT k2).size ≤ 9223372036854775807 := by simp only [ByteArray.size_append]; omega
      have u6 : (B [40, 105, 102, 32] ++ textT k0 ++ B [32, 116, 104, 101, 110, 32] ++ textT k1 ++ B [32, 101, 108, 115, 101, 32] ++ textT k2 ++ B [41]).size ≤ 9223372036854775807 := by simp only [ByteArray.size_append]; omega
      repeat' first
        | refine Z1 ?_ | refine Z2 ?_ | refine Z5 ?_ | refine Yej (e := eItm) (n := e - 1) j0 hj0 hx0 ?_ | refine Zc (C0) ?_ | refine Zc (C1) ?_ | refine Zc (C2) ?_ | refine Zc (S2) ?_ | refine Zc (S1) ?_
        | refine Ul (a := B [40, 105, 102, 32]) (b := textT k0) (hb := u1) ?_ | refine Ul (a := B [40, 105, 102, 32] ++ textT k0) (b := B [32, 116, 104, 101, 110, 32]) (hb := u2) ?_
        | refine Ul (a := B [40, 105, 102, 32] ++ textT k0 ++ B [32, 116, 104, 101, 110, 32]) (b := textT k1) (hb := u3) ?_
        | refine Ul (a := B [40, 105, 102, 32] ++ textT k0 ++ B [32, 116, 104, 101, 110, 32] ++ textT k1) (b := B [32, 101, 108, 115, 101, 32]) (hb := u4) ?_
        | refine Ul (a := B [40, 105, 102, 32] ++ textT k0 ++ B [32, 116, 104, 101, 110, 32] ++ textT k1 ++ B [32, 101, 108, 115, 101, 32]) (b := textT k2) (hb := u5) ?_
        | refine Ul (a := B [40, 105, 102, 32] ++ textT k0 ++ B [32, 116, 104, 101, 110, 32] ++ textT k1 ++ B [32, 101, 108, 115, 101, 32] ++ textT k2) (b := B [41]) (hb := u6) ?_ | refine Zg ?_ | refine Zo ?_ | refine ok_seq ?_ | refine Zp ?_
        | refine Zq ?_ | refine ok_block ?_ | refine ok_skip ?_ | refine ok_ret ?_ | refine x_normal_then ?_ | refine x_ret_then ?_ | refine x_normal_block ?_ | refine Zt ?_
      exact congrArg (fun v => AEnd.ret (vs v)) hT
    have d20 : decide (x.op = 20) = false := decide_eq_false p20
    rw [if_neg p20] at hfull
    by_cases p21 : x.op = 21
    · have d21 : decide (x.op = 21) = true := decide_eq_true p21
      rw [if_pos p21] at hfull
      have hlen : ks.length = 1 := by
        have := hw'.1
        rw [p21] at this
        have e : sarityI 21 = 1 := by decide
        omega
      obtain ⟨k0, rfl⟩ : ∃ k0, ks = [k0] := List.length_eq_one_iff.1 hlen
      rw [kid_at (i := 0) (k := k0) rfl] at hfull
      have W0 : wfT k0 := wf_kid hw'.2 (by simp)
      have G0 := fun P R hl e he hz => IH k0 (by simp) P R hl e he hz
      simp only [flatL, List.length_append, List.length_nil, Nat.add_zero, List.append_nil, List.append_assoc] at hl he
      have hT : B [40] ++ itoaB x.val ++ B [32, 102, 98, 121, 32] ++ textT k0 ++ B [41] = textT (.mk x i [k0]) := by rw [textT_mk, ← hfull]; simp only [ba_assoc]
      have hZ := congrArg ByteArray.size hT
      simp only [ByteArray.size_append] at hZ
      have C0 := G0 (P) ([x] ++ R) (by first | exact hl | (rw [hl]; done) | (rw [hl]; simp only [List.append_assoc])) (e - 1) (by first | omega | (simp only [List.length_append]; omega) | (simp only [List.length_append]; done)) (by omega)
      have u1 : (B [40] ++ itoaB x.val).size ≤ 9223372036854775807 := by simp only [ByteArray.size_append]; omega
      have u2 : (B [40] ++ itoaB x.val ++ B [32, 102, 98, 121, 32]).size ≤ 9223372036854775807 := by simp only [ByteArray.size_append]; omega
      have u3 : (B [40] ++ itoaB x.val ++ B [32, 102, 98, 121, 32] ++ textT k0).size ≤ 9223372036854775807 := by simp only [ByteArray.size_append]; omega
      have u4 : (B [40] ++ itoaB x.val ++ B [32, 102, 98, 121, 32] ++ textT k0 ++ B [41]).size ≤ 9223372036854775807 := by simp only [ByteArray.size_append]; omega
      repeat' first
        | refine Z1 ?_ | refine Z2 ?_ | refine Z5 ?_ | refine Yej (e := eItm) (n := e - 1) j0 hj0 hx0 ?_ | refine Zc (dec_ok x.val v1 v2) ?_ | refine Zc (C0) ?_ | refine Ul (a := B [40]) (b := itoaB x.val) (hb := u1) ?_
        | refine Ul (a := B [40] ++ itoaB x.val) (b := B [32, 102, 98, 121, 32]) (hb := u2) ?_ | refine Ul (a := B [40] ++ itoaB x.val ++ B [32, 102, 98, 121, 32]) (b := textT k0) (hb := u3) ?_
        | refine Ul (a := B [40] ++ itoaB x.val ++ B [32, 102, 98, 121, 32] ++ textT k0) (b := B [41]) (hb := u4) ?_ | refine Zg ?_ | refine Zo ?_ | refine ok_seq ?_ | refine Zp ?_ | refine Zq ?_ | refine ok_block ?_ | refine ok_ret ?_
        | refine x_ret_then ?_ | refine x_ret_block ?_ | refine Zt ?_
      exact congrArg (fun v => AEnd.ret (vs v)) hT
    have d21 : decide (x.op = 21) = false := decide_eq_false p21
    rw [if_neg p21] at hfull
    by_cases p22 : x.op = 22
    · have d22 : decide (x.op = 22) = true := decide_eq_true p22
      rw [if_pos p22] at hfull
      have hlen : ks.length = 1 := by
        have := hw'.1
        rw [p22] at this
        have e : sarityI 22 = 1 := by decide
        omega
      obtain ⟨k0, rfl⟩ : ∃ k0, ks = [k0] := List.length_eq_one_iff.1 hlen
      rw [kid_at (i := 0) (k := k0) rfl] at hfull
      have W0 : wfT k0 := wf_kid hw'.2 (by simp)
      have G0 := fun P R hl e he hz => IH k0 (by simp) P R hl e he hz
      simp only [flatL, List.length_append, List.length_nil, Nat.add_zero, List.append_nil, List.append_assoc] at hl he
      have hT : B [40] ++ boolT x.val ++ B [32, 102, 98, 121, 32] ++ textT k0 ++ B [41] = textT (.mk x i [k0]) := by rw [textT_mk, ← hfull]; simp only [ba_assoc]
      have hZ := congrArg ByteArray.size hT
      simp only [ByteArray.size_append] at hZ
      have C0 := G0 (P) ([x] ++ R) (by first | exact hl | (rw [hl]; done) | (rw [hl]; simp only [List.append_assoc])) (e - 1) (by first | omega | (simp only [List.length_append]; omega) | (simp only [List.length_append]; done)) (by omega)
      have u1 : (B [40] ++ boolT x.val).size ≤ 9223372036854775807 := by simp only [ByteArray.size_append]; omega
      have u2 : (B [40] ++ boolT x.val ++ B [32, 102, 98, 121, 32]).size ≤ 9223372036854775807 := by simp only [ByteArray.size_append]; omega
      have u3 : (B [40] ++ boolT x.val ++ B [32, 102, 98, 121, 32] ++ textT k0).size ≤ 9223372036854775807 := by simp only [ByteArray.size_append]; omega
      have u4 : (B [40] ++ boolT x.val ++ B [32, 102, 98, 121, 32] ++ textT k0 ++ B [41]).size ≤ 9223372036854775807 := by simp only [ByteArray.size_append]; omega
      repeat' first
        | refine Z1 ?_ | refine Z2 ?_ | refine Z5 ?_ | refine Yej (e := eItm) (n := e - 1) j0 hj0 hx0 ?_ | refine Zc (flag_ok x.val) ?_ | refine Zc (C0) ?_ | refine Ul (a := B [40]) (b := boolT x.val) (hb := u1) ?_
        | refine Ul (a := B [40] ++ boolT x.val) (b := B [32, 102, 98, 121, 32]) (hb := u2) ?_ | refine Ul (a := B [40] ++ boolT x.val ++ B [32, 102, 98, 121, 32]) (b := textT k0) (hb := u3) ?_
        | refine Ul (a := B [40] ++ boolT x.val ++ B [32, 102, 98, 121, 32] ++ textT k0) (b := B [41]) (hb := u4) ?_ | refine Zg ?_ | refine Zo ?_ | refine ok_seq ?_ | refine Zp ?_ | refine Zq ?_ | refine ok_block ?_ | refine ok_ret ?_
        | refine x_ret_then ?_ | refine x_ret_block ?_ | refine Zt ?_
      exact congrArg (fun v => AEnd.ret (vs v)) hT
    have d22 : decide (x.op = 22) = false := decide_eq_false p22
    rw [if_neg p22] at hfull
    by_cases p23 : x.op = 23
    · have d23 : decide (x.op = 23) = true := decide_eq_true p23
      rw [if_pos p23] at hfull
      have hlen : ks.length = 1 := by
        have := hw'.1
        rw [p23] at this
        have e : sarityI 23 = 1 := by decide
        omega
      obtain ⟨k0, rfl⟩ : ∃ k0, ks = [k0] := List.length_eq_one_iff.1 hlen
      rw [kid_at (i := 0) (k := k0) rfl] at hfull
      have W0 : wfT k0 := wf_kid hw'.2 (by simp)
      have G0 := fun P R hl e he hz => IH k0 (by simp) P R hl e he hz
      simp only [flatL, List.length_append, List.length_nil, Nat.add_zero, List.append_nil, List.append_assoc] at hl he
      by_cases pv : x.val = 1
      · have dv : decide (x.val = 1) = true := decide_eq_true pv
        rw [if_pos pv] at hfull
        have hT : B [40] ++ textT k0 ++ B [32, 119, 104, 101, 110, 32] ++ x.name ++ B [41] = textT (.mk x i [k0]) := by rw [textT_mk, ← hfull]; simp only [ba_assoc]
        have hZ := congrArg ByteArray.size hT
        simp only [ByteArray.size_append] at hZ
        have C0 := G0 (P) ([x] ++ R) (by first | exact hl | (rw [hl]; done) | (rw [hl]; simp only [List.append_assoc])) (e - 1) (by first | omega | (simp only [List.length_append]; omega) | (simp only [List.length_append]; done)) (by omega)
        have u1 : (B [40] ++ textT k0).size ≤ 9223372036854775807 := by simp only [ByteArray.size_append]; omega
        have u2 : (B [40] ++ textT k0 ++ B [32, 119, 104, 101, 110, 32]).size ≤ 9223372036854775807 := by simp only [ByteArray.size_append]; omega
        have u3 : (B [40] ++ textT k0 ++ B [32, 119, 104, 101, 110, 32] ++ x.name).size ≤ 9223372036854775807 := by simp only [ByteArray.size_append]; omega
        have u4 : (B [40] ++ textT k0 ++ B [32, 119, 104, 101, 110, 32] ++ x.name ++ B [41]).size ≤ 9223372036854775807 := by simp only [ByteArray.size_append]; omega
        repeat' first
          | refine Z1 ?_ | refine Z2 ?_ | refine Z5 ?_ | refine Yej (e := eItm) (n := e - 1) j0 hj0 hx0 ?_ | refine Zg ?_ | refine Zw ?_ | refine Zx ?_ | refine Zz (Zc (C0) ⟨rfl, rfl⟩) ?_
          | refine Zz (Ul (a := B [40]) (b := textT k0) (hb := u1) ⟨rfl, rfl⟩) ?_ | refine Zz (Ul (a := B [40] ++ textT k0) (b := B [32, 119, 104, 101, 110, 32]) (hb := u2) ⟨rfl, rfl⟩) ?_
          | refine Zz (Ul (a := B [40] ++ textT k0 ++ B [32, 119, 104, 101, 110, 32]) (b := x.name) (hb := u3) ⟨rfl, rfl⟩) ?_
          | refine Zz (Ul (a := B [40] ++ textT k0 ++ B [32, 119, 104, 101, 110, 32] ++ x.name) (b := B [41]) (hb := u4) ⟨rfl, rfl⟩) ?_ | refine Zo ?_ | refine ok_seq ?_ | refine ok_draw X_mixed (by decide +kernel) ?_ | refine Zp ?_
          | refine Zq ?_ | refine ok_block ?_ | refine ok_ret ?_ | refine x_ret_then ?_ | refine x_ret_block ?_ | refine Zt ?_
        exact congrArg (fun v => AEnd.ret (vs v)) hT
      · have dv : decide (x.val = 1) = false := decide_eq_false pv
        rw [if_neg pv] at hfull
        have hT : B [40] ++ textT k0 ++ B [32, 119, 104, 101, 110, 111, 116, 32] ++ x.name ++ B [41] = textT (.mk x i [k0]) := by rw [textT_mk, ← hfull]; simp only [ba_assoc]
        have hZ := congrArg ByteArray.size hT
        simp only [ByteArray.size_append] at hZ
        have C0 := G0 (P) ([x] ++ R) (by first | exact hl | (rw [hl]; done) | (rw [hl]; simp only [List.append_assoc])) (e - 1) (by first | omega | (simp only [List.length_append]; omega) | (simp only [List.length_append]; done)) (by omega)
        have u1 : (B [40] ++ textT k0).size ≤ 9223372036854775807 := by simp only [ByteArray.size_append]; omega
        have u2 : (B [40] ++ textT k0 ++ B [32, 119, 104, 101, 110, 111, 116, 32]).size ≤ 9223372036854775807 := by simp only [ByteArray.size_append]; omega
        have u3 : (B [40] ++ textT k0 ++ B [32, 119, 104, 101, 110, 111, 116, 32] ++ x.name).size ≤ 9223372036854775807 := by simp only [ByteArray.size_append]; omega
        have u4 : (B [40] ++ textT k0 ++ B [32, 119, 104, 101, 110, 111, 116, 32] ++ x.name ++ B [41]).size ≤ 9223372036854775807 := by simp only [ByteArray.size_append]; omega
        repeat' first
          | refine Z1 ?_ | refine Z2 ?_ | refine Z5 ?_ | refine Yej (e := eItm) (n := e - 1) j0 hj0 hx0 ?_ | refine Zg ?_ | refine Zw ?_ | refine Zx ?_ | refine Zz (Zc (C0) ⟨rfl, rfl⟩) ?_
          | refine Zz (Ul (a := B [40]) (b := textT k0) (hb := u1) ⟨rfl, rfl⟩) ?_ | refine Zz (Ul (a := B [40] ++ textT k0) (b := B [32, 119, 104, 101, 110, 111, 116, 32]) (hb := u2) ⟨rfl, rfl⟩) ?_
          | refine Zz (Ul (a := B [40] ++ textT k0 ++ B [32, 119, 104, 101, 110, 111, 116, 32]) (b := x.name) (hb := u3) ⟨rfl, rfl⟩) ?_
          | refine Zz (Ul (a := B [40] ++ textT k0 ++ B [32, 119, 104, 101, 110, 111, 116, 32] ++ x.name) (b := B [41]) (hb := u4) ⟨rfl, rfl⟩) ?_ | refine Zo ?_ | refine ok_seq ?_ | refine ok_draw X_mixed (by decide +kernel) ?_ | refine Zp ?_
          | refine Zq ?_ | refine ok_block ?_ | refine ok_skip ?_ | refine ok_ret ?_ | refine x_normal_then ?_ | refine x_ret_then ?_ | refine x_ret_block ?_ | refine Zt ?_
        exact congrArg (fun v => AEnd.ret (vs v)) hT
    have d23 : decide (x.op = 23) = false := decide_eq_false p23
    rw [if_neg p23] at hfull
    by_cases p24 : x.op = 24
    · have d24 : decide (x.op = 24) = true := decide_eq_true p24
      rw [if_pos p24] at hfull
      have hlen : ks.length = 2 := by
        have := hw'.1
        rw [p24] at this
        have e : sarityI 24 = 2 := by decide
        omega
      obtain ⟨k0, k1, rfl⟩ : ∃ k0 k1, ks = [k0, k1] := len_two hlen
      rw [kid_at (i := 0) (k := k0) rfl] at hfull
      rw [kid_at (i := 1) (k := k1) rfl] at hfull
      have W0 : wfT k0 := wf_kid hw'.2 (by simp)
      have W1 : wfT k1 := wf_kid hw'.2 (by simp)
      have G0 := fun P R hl e he hz => IH k0 (by simp) P R hl e he hz
      have G1 := fun P R hl e he hz => IH k1 (by simp) P R hl e he hz
      simp only [flatL, List.length_append, List.length_nil, Nat.add_zero, List.append_nil, List.append_assoc] at hl he
      have hT : B [40, 109, 101, 114, 103, 101, 32] ++ x.name ++ B [32] ++ textT k0 ++ B [32] ++ textT k1 ++ B [41] = textT (.mk x i [k0, k1]) := by rw [textT_mk, ← hfull]; simp only [ba_assoc]
      have hZ := congrArg ByteArray.size hT
      simp only [ByteArray.size_append] at hZ
      have C0 := G0 (P) (flat k1 ++ ([x] ++ R)) (by first | exact hl | (rw [hl]; done) | (rw [hl]; simp only [List.append_assoc])) (((P.length + (flat k0).length : Nat) : Int)) (by first | omega | (simp only [List.length_append]; omega) | (simp only [List.length_append]; done)) (by omega)
      have C1 := G1 (P ++ flat k0) ([x] ++ R) (by first | exact hl | (rw [hl]; done) | (rw [hl]; simp only [List.append_assoc])) (e - 1) (by first | omega | (simp only [List.length_append]; omega) | (simp only [List.length_append]; done)) (by omega)
      have S1 := begin_ok l hll k1 W1 (P ++ flat k0) ([x] ++ R) (by first | exact hl | (rw [hl]; done) | (rw [hl]; simp only [List.append_assoc])) (e - 1) (by first | omega | (simp only [List.length_append]; omega) | (simp only [List.length_append]; done)) (((P.length + (flat k0).length : Nat) : Int)) (by first | rfl | simp only [List.length_append])
      have u1 : (B [40, 109, 101, 114, 103, 101, 32] ++ x.name).size ≤ 9223372036854775807 := by simp only [ByteArray.size_append]; omega
      have u2 : (B [40, 109, 101, 114, 103, 101, 32] ++ x.name ++ B [32]).size ≤ 9223372036854775807 := by simp only [ByteArray.size_append]; omega
      have u3 : (B [40, 109, 101, 114, 103, 101, 32] ++ x.name ++ B [32] ++ textT k0).size ≤ 9223372036854775807 := by simp only [ByteArray.size_append]; omega
      have u4 : (B [40, 109, 101, 114, 103, 101, 32] ++ x.name ++ B [32] ++ textT k0 ++ B [32]).size ≤ 9223372036854775807 := by simp only [ByteArray.size_append]; omega
      have u5 : (B [40, 109, 101, 114, 103, 101, 32] ++ x.name ++ B [32] ++ textT k0 ++ B [32] ++ textT k1).size ≤ 9223372036854775807 := by simp only [ByteArray.size_append]; omega
      have u6 : (B [40, 109, 101, 114, 103, 101, 32] ++ x.name ++ B [32] ++ textT k0 ++ B [32] ++ textT k1 ++ B [41]).size ≤ 9223372036854775807 := by simp only [ByteArray.size_append]; omega
      repeat' first
        | refine Z1 ?_ | refine Z2 ?_ | refine Z5 ?_ | refine Yej (e := eItm) (n := e - 1) j0 hj0 hx0 ?_ | refine Zc (S1) ?_ | refine Zg ?_ | refine Zw ?_ | refine Zx ?_ | refine Zz (Zc (C0) ⟨rfl, rfl⟩) ?_ | refine Zz (Zc (C1) ⟨rfl, rfl⟩) ?_
        | refine Zz (Ul (a := B [40, 109, 101, 114, 103, 101, 32]) (b := x.name) (hb := u1) ⟨rfl, rfl⟩) ?_ | refine Zz (Ul (a := B [40, 109, 101, 114, 103, 101, 32] ++ x.name) (b := B [32]) (hb := u2) ⟨rfl, rfl⟩) ?_
        | refine Zz (Ul (a := B [40, 109, 101, 114, 103, 101, 32] ++ x.name ++ B [32]) (b := textT k0) (hb := u3) ⟨rfl, rfl⟩) ?_
        | refine Zz (Ul (a := B [40, 109, 101, 114, 103, 101, 32] ++ x.name ++ B [32] ++ textT k0) (b := B [32]) (hb := u4) ⟨rfl, rfl⟩) ?_
        | refine Zz (Ul (a := B [40, 109, 101, 114, 103, 101, 32] ++ x.name ++ B [32] ++ textT k0 ++ B [32]) (b := textT k1) (hb := u5) ⟨rfl, rfl⟩) ?_
        | refine Zz (Ul (a := B [40, 109, 101, 114, 103, 101, 32] ++ x.name ++ B [32] ++ textT k0 ++ B [32] ++ textT k1) (b := B [41]) (hb := u6) ⟨rfl, rfl⟩) ?_ | refine Zo ?_ | refine ok_seq ?_ | refine ok_draw X_mixed (by decide +kernel) ?_
        | refine Zp ?_ | refine Zq ?_ | refine ok_block ?_ | refine ok_skip ?_ | refine ok_ret ?_ | refine x_normal_then ?_ | refine x_ret_then ?_ | refine x_normal_block ?_ | refine Zt ?_
      exact congrArg (fun v => AEnd.ret (vs v)) hT
    have d24 : decide (x.op = 24) = false := decide_eq_false p24
    rw [if_neg p24] at hfull
    have hsg := sign_ok x.op
    rw [ot_sign (by omega)] at hsg
    have hoz : (otFind x.op).size ≤ 140737488355328 := by
      have q := congrArg ByteArray.size hfull
      rw [textT_mk] at hs
      simp only [ByteArray.size_append] at q
      omega
    have hlen : ks.length = 2 := by
      have := hw'.1
      have e : sarityI x.op = 2 := by unfold sarityI; rw [if_neg (by omega), if_neg (by omega), if_pos (by omega)]
      omega
    obtain ⟨k0, k1, rfl⟩ : ∃ k0 k1, ks = [k0, k1] := len_two hlen
    rw [kid_at (i := 0) (k := k0) rfl] at hfull
    rw [kid_at (i := 1) (k := k1) rfl] at hfull
    have W0 : wfT k0 := wf_kid hw'.2 (by simp)
    have W1 : wfT k1 := wf_kid hw'.2 (by simp)
    have G0 := fun P R hl e he hz => IH k0 (by simp) P R hl e he hz
    have G1 := fun P R hl e he hz => IH k1 (by simp) P R hl e he hz
    simp only [flatL, List.length_append, List.length_nil, Nat.add_zero, List.append_nil, List.append_assoc] at hl he
    have hT : B [40] ++ textT k0 ++ B [32] ++ otFind x.op ++ B [32] ++ textT k1 ++ B [41] = textT (.mk x i [k0, k1]) := by rw [textT_mk, ← hfull]; simp only [ba_assoc]
    have hZ := congrArg ByteArray.size hT
    simp only [ByteArray.size_append] at hZ
    have C0 := G0 (P) (flat k1 ++ ([x] ++ R)) (by first | exact hl | (rw [hl]; done) | (rw [hl]; simp only [List.append_assoc])) (((P.length + (flat k0).length : Nat) : Int)) (by first | omega | (simp only [List.length_append]; omega) | (simp only [List.length_append]; done)) (by omega)
    have C1 := G1 (P ++ flat k0) ([x] ++ R) (by first | exact hl | (rw [hl]; done) | (rw [hl]; simp only [List.append_assoc])) (e - 1) (by first | omega | (simp only [List.length_append]; omega) | (simp only [List.length_append]; done)) (by omega)
    have S1 := begin_ok l hll k1 W1 (P ++ flat k0) ([x] ++ R) (by first | exact hl | (rw [hl]; done) | (rw [hl]; simp only [List.append_assoc])) (e - 1) (by first | omega | (simp only [List.length_append]; omega) | (simp only [List.length_append]; done)) (((P.length + (flat k0).length : Nat) : Int)) (by first | rfl | simp only [List.length_append])
    have u1 : (B [40] ++ textT k0).size ≤ 9223372036854775807 := by simp only [ByteArray.size_append]; omega
    have u2 : (B [40] ++ textT k0 ++ B [32]).size ≤ 9223372036854775807 := by simp only [ByteArray.size_append]; omega
    have u3 : (B [40] ++ textT k0 ++ B [32] ++ otFind x.op).size ≤ 9223372036854775807 := by simp only [ByteArray.size_append]; omega
    have u4 : (B [40] ++ textT k0 ++ B [32] ++ otFind x.op ++ B [32]).size ≤ 9223372036854775807 := by simp only [ByteArray.size_append]; omega
    have u5 : (B [40] ++ textT k0 ++ B [32] ++ otFind x.op ++ B [32] ++ textT k1).size ≤ 9223372036854775807 := by simp only [ByteArray.size_append]; omega
    have u6 : (B [40] ++ textT k0 ++ B [32] ++ otFind x.op ++ B [32] ++ textT k1 ++ B [41]).size ≤ 9223372036854775807 := by simp only [ByteArray.size_append]; omega
    repeat' first
      | refine Z1 ?_ | refine Z2 ?_ | refine Z5 ?_ | refine Yej (e := eItm) (n := e - 1) j0 hj0 hx0 ?_ | refine Zc (S1) ?_ | refine Zg ?_ | refine Zw ?_ | refine Zx ?_ | refine Zz (Zc (hsg) ⟨rfl, rfl⟩) ?_ | refine Zz (Zc (C0) ⟨rfl, rfl⟩) ?_
      | refine Zz (Zc (C1) ⟨rfl, rfl⟩) ?_ | refine Zz (Ul (a := B [40]) (b := textT k0) (hb := u1) ⟨rfl, rfl⟩) ?_ | refine Zz (Ul (a := B [40] ++ textT k0) (b := B [32]) (hb := u2) ⟨rfl, rfl⟩) ?_
      | refine Zz (Ul (a := B [40] ++ textT k0 ++ B [32]) (b := otFind x.op) (hb := u3) ⟨rfl, rfl⟩) ?_ | refine Zz (Ul (a := B [40] ++ textT k0 ++ B [32] ++ otFind x.op) (b := B [32]) (hb := u4) ⟨rfl, rfl⟩) ?_
      | refine Zz (Ul (a := B [40] ++ textT k0 ++ B [32] ++ otFind x.op ++ B [32]) (b := textT k1) (hb := u5) ⟨rfl, rfl⟩) ?_
      | refine Zz (Ul (a := B [40] ++ textT k0 ++ B [32] ++ otFind x.op ++ B [32] ++ textT k1) (b := B [41]) (hb := u6) ⟨rfl, rfl⟩) ?_ | refine Zo ?_ | refine ok_seq ?_ | refine ok_draw X_mixed (by decide +kernel) ?_ | refine Zq ?_
      | refine ok_block ?_ | refine ok_skip ?_ | refine ok_ret ?_ | refine x_normal_then ?_ | refine x_normal_block ?_ | refine Zt ?_
    exact congrArg (fun v => AEnd.ret (vs v)) hT
end Go.Pm
/- Declarations as texts: the specification's. -/
set_option linter.unusedVariables false
set_option linter.unusedSimpArgs false
namespace Go.Pm
attribute [local irreducible] AR Ok inBlock andThen endQ aoper
set_option maxHeartbeats 4000000
open Go.Proofs
def clkT (c : Cnd) : ByteArray := (if c.on = true then B [32, 119, 104, 101, 110, 32] else B [32, 119, 104, 101, 110, 111, 116, 32]) ++ c.name
def tyD (n : Int) : ByteArray := if n = 2 then B [98, 111, 111, 108] else B [105, 110, 116]
def declT (v : Vr) : ByteArray := v.name ++ (B [58, 32] ++ (tyD v.type ++ catT clkT v.clock))
theorem sdecl_ok (v : Vr) (hc : v.clock.length ≤ 1048576) (hs : (declT v).size ≤ 140737488355328) : PFun X 40 [.agg ((eVr v).map .d)] (vs (declT v)) := by
  obtain ⟨full, hfull⟩ : ∃ full, declT v = full := ⟨_, rfl⟩
  rw [hfull] at hs ⊢
  unfold declT at hfull
  have hz := congrArg ByteArray.size hfull
  simp only [ByteArray.size_append] at hz
  have b1 : (B [58, 32, 105, 110, 116]).size = 5 := rfl
  have b2 : (B [58, 32, 98, 111, 111, 108]).size = 6 := rfl
  have u1 : (v.name ++ B [58, 32, 105, 110, 116]).size ≤ 9223372036854775807 := by rw [ByteArray.size_append]; omega
  have u2 : (v.name ++ B [58, 32, 98, 111, 111, 108]).size ≤ 9223372036854775807 := by rw [ByteArray.size_append]; omega
  refine pfun_of Tryd.func40 rfl (by decide) Tryd.ntmps40 Tryd.results40 (by simp) rfl rfl ?_
  obtain ⟨w, hw⟩ : ∃ w, w = v.name ++ (B [58, 32] ++ tyD v.type) := ⟨_, rfl⟩
  have hfull : w ++ catT clkT v.clock = full := by rw [hw, ← hfull]; simp only [ba_assoc]
  by_cases ht : v.type = 2
  · have dt : decide (v.type = 2) = true := decide_eq_true ht
    have hw2 : w = v.name ++ B [58, 32, 98, 111, 111, 108] := by rw [hw]; unfold tyD; rw [if_pos ht]; rfl
    repeat' first
      | refine Z1 ?_ | refine Z2 ?_ | refine Z3 ?_ | refine Z4 ?_ | refine Z5 ?_ | refine Z6 ?_ | refine Z7 ?_ | refine Z8 ?_ | refine Z9 ?_ | refine Za (fun hc => ?_) (fun hc => ?_) | refine Zb (fun hc => ?_) (fun hc => ?_)
      | refine Ul (a := v.name) (b := B [58, 32, 105, 110, 116]) (hb := u1) ?_ | refine Ul (a := v.name) (b := B [58, 32, 98, 111, 111, 108]) (hb := u2) ?_ | refine Zd ?_ | refine Ze ?_ | refine Zf ?_ | refine Zg ?_ | refine Zh ?_
      | refine Zi ?_ | refine Zj ?_ | refine Zk ?_ | refine Zl ?_ | refine Zm ?_ | refine Zn (fun hc => ?_) (fun hc => ?_) | refine Zo ?_ | refine ok_seq ?_ | refine ok_reg ?_ | refine Zp ?_ | refine Zq ?_
      | refine Zr (fun hc => ?_) (fun hc => ?_) | refine ok_block ?_ | refine ok_exit ?_ | refine ok_skip ?_ | refine ok_ret ?_ | refine x_normal_then ?_ | refine x_exit_here ?_ | refine Zs ?_ | refine Zv ?_ | refine x_ret_then ?_
      | refine x_ret_block ?_ | refine x_normal_block ?_ | refine Zt ?_ | refine Zu ?_
    rw [← hw2]
    refine ok_for (ι := Nat × ByteArray) (fun x_ => envL [(1, .ref 0 0), (3, vs x_.2), (16, .d (.im (v.clock.map eCnd))), (17, vi v.clock.length), (18, vi x_.1)]) (fun x_ => stL [some (.var ((eVr v).map .d))]) (fun x_ => x_.1 ≤ v.clock.length ∧ x_.2 ++ catT clkT (v.clock.drop x_.1) = full) (fun x_ => v.clock.length - x_.1) (0, w) (⟨Nat.zero_le _, hfull⟩) (weak_mk rfl ⟨.refl _, .refl _, .refl _, .refl _, .refl _, trivial⟩ ⟨⟨rfl, _, rfl, rfl, fun _ _ _ => .refl _⟩, trivial⟩) (fun _ => Nat.le_refl 1) ?_
    rintro ⟨k, u⟩ ⟨i1, i2⟩
    simp only at i1 i2
    rcases hx : v.clock[k]? with _ | c
    · have hle := none_le hx
      have ek : decide ((k : Int) < (v.clock.length : Int)) = false := decide_eq_false (by omega)
      rw [drop_none hx] at i2
      simp only [catT, ba_nil] at i2
      repeat' first
        | refine Z1 ?_ | refine Z2 ?_ | refine Z3 ?_ | refine Z4 ?_ | refine Z5 ?_ | refine Z6 ?_ | refine Z7 ?_ | refine Z8 ?_ | refine Z9 ?_ | refine Za (fun hc => ?_) (fun hc => ?_) | refine Zb (fun hc => ?_) (fun hc => ?_)
        | refine Zd ?_ | refine Ze ?_ | refine Zf ?_ | refine Zg ?_ | refine Zh ?_ | refine Zi ?_ | refine Zj ?_ | refine Zk ?_ | refine Zl ?_ | refine Zm ?_ | refine Zn (fun hc => ?_) (fun hc => ?_) | refine Zo ?_ | refine ok_seq ?_
        | refine ok_reg ?_ | refine Zp ?_ | refine Zq ?_ | refine Zr (fun hc => ?_) (fun hc => ?_) | refine ok_block ?_ | refine ok_exit ?_ | refine ok_skip ?_ | refine ok_ret ?_ | refine x_normal_then ?_ | refine x_exit_here ?_
        | refine Zs ?_ | refine Zv ?_ | refine x_ret_then ?_ | refine x_ret_block ?_ | refine x_normal_block ?_ | refine Zt ?_ | refine Zu ?_
      exact congrArg (fun v => AEnd.ret (vs v)) i2
    obtain ⟨hd, hlt⟩ := drop_some hx
    have ek : decide ((k : Int) < (v.clock.length : Int)) = true := decide_eq_true (by omega)
    rw [hd] at i2
    simp only [catT, clkT] at i2
    have z1 := sz_of i2 hs
    have i2 := nx_of i2
    cases ho : c.on with
    | true =>
      rw [ho, if_pos rfl] at z1 i2
      have z2 := z1
      simp only [ByteArray.size_append] at z2
      repeat' first
        | refine Z1 ?_ | refine Z2 ?_ | refine Z3 ?_ | refine Z4 ?_ | refine Z5 ?_ | refine Z6 ?_ | refine Z7 ?_ | refine Z8 ?_ | refine Z9 ?_ | refine Za (fun hc => ?_) (fun hc => ?_) | refine Zb (fun hc => ?_) (fun hc => ?_)
        | refine Ul (a := B [32, 119, 104, 101, 110, 32]) (b := c.name) (hb := by rw [ByteArray.size_append]; omega) ?_ | refine Ul (a := u) (b := B [32, 119, 104, 101, 110, 32] ++ c.name) (hb := by omega) ?_ | refine Zd ?_ | refine Ze ?_
        | refine Zf ?_ | refine Zg ?_ | refine Zh ?_ | refine Zi ?_ | refine Zj ?_ | refine Zk ?_ | refine Zl ?_ | refine Zm ?_ | refine Zn (fun hc => ?_) (fun hc => ?_) | refine Zo ?_ | refine ok_seq ?_ | refine ok_reg ?_ | refine Zp ?_
        | refine Zq ?_ | refine Zr (fun hc => ?_) (fun hc => ?_) | refine ok_block ?_ | refine ok_exit ?_ | refine ok_skip ?_ | refine ok_ret ?_ | refine x_normal_then ?_ | refine x_exit_here ?_ | refine Zs ?_ | refine Zv ?_
        | refine x_ret_then ?_ | refine x_ret_block ?_ | refine x_normal_block ?_ | refine Zt ?_ | refine Zu ?_
      exact ⟨(k + 1, u ++ (B [32, 119, 104, 101, 110, 32] ++ c.name)), ⟨hlt, i2⟩, by (try simp only); omega, low_mk (Nat.le_of_ble_eq_true rfl) ⟨⟨rfl, rfl⟩, ⟨rfl, rfl⟩, ⟨rfl, rfl⟩, ⟨rfl, rfl⟩, ⟨rfl, rfl⟩, trivial⟩ ⟨⟨rfl, rfl⟩, trivial⟩⟩
    | false =>
      rw [ho, if_neg (by decide)] at z1 i2
      have z2 := z1
      simp only [ByteArray.size_append] at z2
      repeat' first
        | refine Z1 ?_ | refine Z2 ?_ | refine Z3 ?_ | refine Z4 ?_ | refine Z5 ?_ | refine Z6 ?_ | refine Z7 ?_ | refine Z8 ?_ | refine Z9 ?_ | refine Za (fun hc => ?_) (fun hc => ?_) | refine Zb (fun hc => ?_) (fun hc => ?_)
        | refine Ul (a := B [32, 119, 104, 101, 110, 111, 116, 32]) (b := c.name) (hb := by rw [ByteArray.size_append]; omega) ?_ | refine Ul (a := u) (b := B [32, 119, 104, 101, 110, 111, 116, 32] ++ c.name) (hb := by omega) ?_
        | refine Zd ?_ | refine Ze ?_ | refine Zf ?_ | refine Zg ?_ | refine Zh ?_ | refine Zi ?_ | refine Zj ?_ | refine Zk ?_ | refine Zl ?_ | refine Zm ?_ | refine Zn (fun hc => ?_) (fun hc => ?_) | refine Zo ?_ | refine ok_seq ?_
        | refine ok_reg ?_ | refine Zp ?_ | refine Zq ?_ | refine Zr (fun hc => ?_) (fun hc => ?_) | refine ok_block ?_ | refine ok_exit ?_ | refine ok_skip ?_ | refine ok_ret ?_ | refine x_normal_then ?_ | refine x_exit_here ?_
        | refine Zs ?_ | refine Zv ?_ | refine x_ret_then ?_ | refine x_ret_block ?_ | refine x_normal_block ?_ | refine Zt ?_ | refine Zu ?_
      exact ⟨(k + 1, u ++ (B [32, 119, 104, 101, 110, 111, 116, 32] ++ c.name)), ⟨hlt, i2⟩, by (try simp only); omega, low_mk (Nat.le_of_ble_eq_true rfl) ⟨⟨rfl, rfl⟩, ⟨rfl, rfl⟩, ⟨rfl, rfl⟩, ⟨rfl, rfl⟩, ⟨rfl, rfl⟩, trivial⟩ ⟨⟨rfl, rfl⟩, trivial⟩⟩
  · have dt : decide (v.type = 2) = false := decide_eq_false ht
    have hw2 : w = v.name ++ B [58, 32, 105, 110, 116] := by rw [hw]; unfold tyD; rw [if_neg ht]; rfl
    repeat' first
      | refine Z1 ?_ | refine Z2 ?_ | refine Z3 ?_ | refine Z4 ?_ | refine Z5 ?_ | refine Z6 ?_ | refine Z7 ?_ | refine Z8 ?_ | refine Z9 ?_ | refine Za (fun hc => ?_) (fun hc => ?_) | refine Zb (fun hc => ?_) (fun hc => ?_)
      | refine Ul (a := v.name) (b := B [58, 32, 105, 110, 116]) (hb := u1) ?_ | refine Zd ?_ | refine Ze ?_ | refine Zf ?_ | refine Zg ?_ | refine Zh ?_ | refine Zi ?_ | refine Zj ?_ | refine Zk ?_ | refine Zl ?_ | refine Zm ?_
      | refine Zn (fun hc => ?_) (fun hc => ?_) | refine Zo ?_ | refine ok_seq ?_ | refine ok_reg ?_ | refine Zp ?_ | refine Zq ?_ | refine Zr (fun hc => ?_) (fun hc => ?_) | refine ok_block ?_ | refine ok_exit ?_ | refine ok_skip ?_
      | refine ok_ret ?_ | refine x_normal_then ?_ | refine x_exit_here ?_ | refine Zs ?_ | refine Zv ?_ | refine x_ret_then ?_ | refine x_ret_block ?_ | refine x_normal_block ?_ | refine Zt ?_ | refine Zu ?_
    rw [← hw2]
    refine ok_for (ι := Nat × ByteArray) (fun x_ => envL [(1, .ref 0 0), (3, vs x_.2), (16, .d (.im (v.clock.map eCnd))), (17, vi v.clock.length), (18, vi x_.1)]) (fun x_ => stL [some (.var ((eVr v).map .d))]) (fun x_ => x_.1 ≤ v.clock.length ∧ x_.2 ++ catT clkT (v.clock.drop x_.1) = full) (fun x_ => v.clock.length - x_.1) (0, w) (⟨Nat.zero_le _, hfull⟩) (weak_mk rfl ⟨.refl _, .refl _, .refl _, .refl _, .refl _, trivial⟩ ⟨⟨rfl, _, rfl, rfl, fun _ _ _ => .refl _⟩, trivial⟩) (fun _ => Nat.le_refl 1) ?_
    rintro ⟨k, u⟩ ⟨i1, i2⟩
    simp only at i1 i2
    rcases hx : v.clock[k]? with _ | c
    · have hle := none_le hx
      have ek : decide ((k : Int) < (v.clock.length : Int)) = false := decide_eq_false (by omega)
      rw [drop_none hx] at i2
      simp only [catT, ba_nil] at i2
      repeat' first
        | refine Z1 ?_ | refine Z2 ?_ | refine Z3 ?_ | refine Z4 ?_ | refine Z5 ?_ | refine Z6 ?_ | refine Z7 ?_ | refine Z8 ?_ | refine Z9 ?_ | refine Za (fun hc => ?_) (fun hc => ?_) | refine Zb (fun hc => ?_) (fun hc => ?_)
        | refine Zd ?_ | refine Ze ?_ | refine Zf ?_ | refine Zg ?_ | refine Zh ?_ | refine Zi ?_ | refine Zj ?_ | refine Zk ?_ | refine Zl ?_ | refine Zm ?_ | refine Zn (fun hc => ?_) (fun hc => ?_) | refine Zo ?_ | refine ok_seq ?_
        | refine ok_reg ?_ | refine Zp ?_ | refine Zq ?_ | refine Zr (fun hc => ?_) (fun hc => ?_) | refine ok_block ?_ | refine ok_exit ?_ | refine ok_skip ?_ | refine ok_ret ?_ | refine x_normal_then ?_ | refine x_exit_here ?_
        | refine Zs ?_ | refine Zv ?_ | refine x_ret_then ?_ | refine x_ret_block ?_ | refine x_normal_block ?_ | refine Zt ?_ | refine Zu ?_
      exact congrArg (fun v => AEnd.ret (vs v)) i2
    obtain ⟨hd, hlt⟩ := drop_some hx
    have ek : decide ((k : Int) < (v.clock.length : Int)) = true := decide_eq_true (by omega)
    rw [hd] at i2
    simp only [catT, clkT] at i2
    have z1 := sz_of i2 hs
    have i2 := nx_of i2
    cases ho : c.on with
    | true =>
      rw [ho, if_pos rfl] at z1 i2
      have z2 := z1
      simp only [ByteArray.size_append] at z2
      repeat' first
        | refine Z1 ?_ | refine Z2 ?_ | refine Z3 ?_ | refine Z4 ?_ | refine Z5 ?_ | refine Z6 ?_ | refine Z7 ?_ | refine Z8 ?_ | refine Z9 ?_ | refine Za (fun hc => ?_) (fun hc => ?_) | refine Zb (fun hc => ?_) (fun hc => ?_)
        | refine Ul (a := B [32, 119, 104, 101, 110, 32]) (b := c.name) (hb := by rw [ByteArray.size_append]; omega) ?_ | refine Ul (a := u) (b := B [32, 119, 104, 101, 110, 32] ++ c.name) (hb := by omega) ?_ | refine Zd ?_ | refine Ze ?_
        | refine Zf ?_ | refine Zg ?_ | refine Zh ?_ | refine Zi ?_ | refine Zj ?_ | refine Zk ?_ | refine Zl ?_ | refine Zm ?_ | refine Zn (fun hc => ?_) (fun hc => ?_) | refine Zo ?_ | refine ok_seq ?_ | refine ok_reg ?_ | refine Zp ?_
        | refine Zq ?_ | refine Zr (fun hc => ?_) (fun hc => ?_) | refine ok_block ?_ | refine ok_exit ?_ | refine ok_skip ?_ | refine ok_ret ?_ | refine x_normal_then ?_ | refine x_exit_here ?_ | refine Zs ?_ | refine Zv ?_
        | refine x_ret_then ?_ | refine x_ret_block ?_ | refine x_normal_block ?_ | refine Zt ?_ | refine Zu ?_
      exact ⟨(k + 1, u ++ (B [32, 119, 104, 101, 110, 32] ++ c.name)), ⟨hlt, i2⟩, by (try simp only); omega, low_mk (Nat.le_of_ble_eq_true rfl) ⟨⟨rfl, rfl⟩, ⟨rfl, rfl⟩, ⟨rfl, rfl⟩, ⟨rfl, rfl⟩, ⟨rfl, rfl⟩, trivial⟩ ⟨⟨rfl, rfl⟩, trivial⟩⟩
    | false =>
      rw [ho, if_neg (by decide)] at z1 i2
      have z2 := z1
      simp only [ByteArray.size_append] at z2
      repeat' first
        | refine Z1 ?_ | refine Z2 ?_ | refine Z3 ?_ | refine Z4 ?_ | refine Z5 ?_ | refine Z6 ?_ | refine Z7 ?_ | refine Z8 ?_ | refine Z9 ?_ | refine Za (fun hc => ?_) (fun hc => ?_) | refine Zb (fun hc => ?_) (fun hc => ?_)
        | refine Ul (a := B [32, 119, 104, 101, 110, 111, 116, 32]) (b := c.name) (hb := by rw [ByteArray.size_append]; omega) ?_ | refine Ul (a := u) (b := B [32, 119, 104, 101, 110, 111, 116, 32] ++ c.name) (hb := by omega) ?_
        | refine Zd ?_ | refine Ze ?_ | refine Zf ?_ | refine Zg ?_ | refine Zh ?_ | refine Zi ?_ | refine Zj ?_ | refine Zk ?_ | refine Zl ?_ | refine Zm ?_ | refine Zn (fun hc => ?_) (fun hc => ?_) | refine Zo ?_ | refine ok_seq ?_
        | refine ok_reg ?_ | refine Zp ?_ | refine Zq ?_ | refine Zr (fun hc => ?_) (fun hc => ?_) | refine ok_block ?_ | refine ok_exit ?_ | refine ok_skip ?_ | refine ok_ret ?_ | refine x_normal_then ?_ | refine x_exit_here ?_
        | refine Zs ?_ | refine Zv ?_ | refine x_ret_then ?_ | refine x_ret_block ?_ | refine x_normal_block ?_ | refine Zt ?_ | refine Zu ?_
      exact ⟨(k + 1, u ++ (B [32, 119, 104, 101, 110, 111, 116, 32] ++ c.name)), ⟨hlt, i2⟩, by (try simp only); omega, low_mk (Nat.le_of_ble_eq_true rfl) ⟨⟨rfl, rfl⟩, ⟨rfl, rfl⟩, ⟨rfl, rfl⟩, ⟨rfl, rfl⟩, ⟨rfl, rfl⟩, trivial⟩ ⟨⟨rfl, rfl⟩, trivial⟩⟩
end Go.Pm
