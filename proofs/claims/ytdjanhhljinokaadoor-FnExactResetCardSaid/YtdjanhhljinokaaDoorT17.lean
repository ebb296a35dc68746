/- The laws' marks, written into trees of a box (printed by gen_mark.py). -/
import Derived.Test.YtdjanhhljinokaaDoorT16
import Derived.Test.YtdjanhhljinokaaDoorT7
import Derived.Test.YtdjanhhljinokaaDoorT8
import Derived.Test.YtdjanhhljinokaaDoorT15
set_option linter.unusedVariables false
set_option linter.unusedSimpArgs false
namespace Go.Pm
attribute [local irreducible] AR Ok inBlock andThen endQ aoper
set_option maxHeartbeats 2000000
open Go.Proofs
theorem markStringS_ok (l : List (ByteArray)) (k : Int) (h1 : 1 ≤ k) (h2 : k + 4 * (wL (wStr) l : Int) ≤ 1099511627776) {u : Value} {τ : FH} {L : List (Sh × D × Value)} (hT : Tr τ ((.im 9 shStr, .im (l.map eStr), u) :: L)) :
    BFun X 28 [.d (.s u), vi k] τ fun A τ' => A = .ret (vi (mkL mkStr l k).2) ∧ Tr τ' ((.im 9 shStr, .im ((mkL mkStr l k).1.map eStr), u) :: L) := by
  refine BFun.open hT rfl rfl ⟨_, Tryd.func28, by decide, rfl⟩ (by rw [List.length_map, List.length_map, mkL_len]) ?_
  intro V0 τ0 ha hT0
  rw [List.length_map]
  refine afun_of Tryd.func28 rfl (by decide) Tryd.ntmps28 Tryd.results28 (by simp) ?_
  repeat' first
    | refine Z1 ?_ | refine Z2 ?_ | refine Zo ?_ | refine ok_seq ?_ | refine ok_block ?_
  refine ok_for (ι := Nat × List (ByteArray) × Int × List (List Value) × FH) (fun x_ => envL [(0, .sl 1 1 0 l.length), (1, vi x_.2.2.1), (5, vi x_.1)]) (fun x_ => stL [some (.box x_.2.2.2.2), some (.row 1 9 1 (exR x_.2.2.2.1))]) (fun x_ => x_.1 ≤ l.length ∧ x_.2.1.length = x_.1 ∧ 1 ≤ x_.2.2.1 ∧ (mkL mkStr (l.drop x_.1) x_.2.2.1).2 = (mkL mkStr l k).2 ∧ x_.2.1 ++ (mkL mkStr (l.drop x_.1) x_.2.2.1).1 = (mkL mkStr l k).1 ∧ agrs shStr ((x_.2.1 ++ l.drop x_.1).map eStr) x_.2.2.2.1 ∧ Tr x_.2.2.2.2 (subss shStr ((x_.2.1 ++ l.drop x_.1).map eStr) x_.2.2.2.1 ++ L) ∧ x_.2.2.1 + 4 * (wL (wStr) (l.drop x_.1) : Int) ≤ 1099511627776) (fun x_ => l.length - x_.1) (0, [], k, V0, τ0) (⟨Nat.zero_le _, rfl, h1, rfl, rfl, ha, hT0, h2⟩) (weak_mk rfl ⟨.refl _, .refl _, .refl _, trivial⟩ ⟨⟨rfl, _, rfl, rfl⟩, ⟨rfl, _, rfl, rfl, rfl, rfl, rfl⟩, trivial⟩) (fun _ => Nat.le_refl 2) ?_
  rintro ⟨i, d, q, V, τ1⟩ ⟨i1, i2, i3, i4, i5, i6, i7, i8⟩
  simp only at i1 i2 i3 i4 i5 i6 i7 i8
  have hll : l.length ≤ wL (wStr) l := Nat.le_add_right _ _
  show Ok _ _ _ _ (envL [(0, .sl 1 1 0 l.length), (1, vi q), (5, vi i)]) (stL [some (.box τ1), some (.row 1 9 1 (exR V))])
  rcases hx : l[i]? with _ | x
  · have hle := none_le hx
    have ek : decide ((i : Int) < ((l.length - 0 : Nat) : Int)) = false := decide_eq_false (by omega)
    rw [drop_none hx] at i4 i5 i6 i7
    simp only [mkL, List.append_nil] at i4 i5 i6 i7
    subst i5
    repeat' first
      | refine Z1 ?_ | refine Z2 ?_ | refine Zo ?_ | refine ok_seq ?_ | refine Zq ?_ | refine ok_exit ?_ | refine ok_ret ?_ | refine x_normal_then ?_ | refine x_exit_here ?_ | refine Zv ?_ | refine Zt ?_
    exact ⟨V, τ1, congrArg (fun v => AEnd.ret (vi v)) i4, rfl, rfl, i6, i7⟩
  · obtain ⟨hd, hlt⟩ := drop_some hx
    have ek : decide ((i : Int) < ((l.length - 0 : Nat) : Int)) = true := decide_eq_true (by omega)
    rw [hd] at i4 i5 i6 i7 i8
    rw [wL_cons'] at i8
    simp only [mkL] at i4 i5
    rw [List.map_append] at i6 i7
    obtain ⟨A, r, B, rfl, hA, a1, a2, a3⟩ := agrs_mid (A := d.map eStr) (B := (l.drop (i + 1)).map eStr) (x := eStr x) i6
    have hA' : A.length = i := by rw [List.length_map] at hA; omega
    have hcx := cntS x q
    have n3 : 1 ≤ (mkStr x q).2 := by omega
    have n8 : (mkStr x q).2 + 4 * (wL (wStr) (l.drop (i + 1)) : Int) ≤ 1099511627776 := by omega
    have n5 : (d ++ [(mkStr x q).1]) ++ (mkL mkStr (l.drop (i + 1)) (mkStr x q).2).1 = (mkL mkStr l k).1 := by rw [List.append_assoc]; exact i5
    obtain ⟨r0, rfl⟩ := len1 (agr_len a2).2
    have n6 : agrs shStr (((d ++ [(mkStr x q).1]) ++ l.drop (i + 1)).map eStr) (A ++ [.string (markT (q))] :: B) := by
      rw [List.append_assoc, List.map_append]
      exact agrs_app a1 ⟨by simp [agr, eStr, mkStr], a3⟩
    have n7 : Tr τ1 (subss shStr (((d ++ [(mkStr x q).1]) ++ l.drop (i + 1)).map eStr) (A ++ [.string (markT (q))] :: B) ++ L) := by
      rw [subss_nil shStr_words] at i7 ⊢; exact i7
    repeat' first
      | refine Z1 ?_ | refine Z2 ?_ | refine Z3 ?_ | refine Z5 ?_ | refine op_place rfl rfl hlt rfl rfl rfl rfl ?_ | refine Zc (markText_ok (q) (by omega) (by omega)) ?_
      | refine op_stw (A := A) (B := B) (r := [r0]) (r' := [.string (markT (q))]) (c := 0) hA' rfl rfl rfl rfl rfl rfl rfl rfl ?_ | refine Zf ?_ | refine Zo ?_ | refine ok_seq ?_ | refine ok_reg ?_ | refine Zp ?_ | refine ok_block ?_
      | refine ok_skip ?_ | refine x_normal_then ?_ | refine x_normal_block ?_
    exact ⟨(i + 1, d ++ [(mkStr x q).1], (mkStr x q).2, A ++ [.string (markT (q))] :: B, τ1), ⟨hlt, by simp [i2], n3, i4, n5, n6, n7, n8⟩, by (try simp only); omega, low_mk (Nat.le_of_ble_eq_true rfl) ⟨⟨rfl, rfl⟩, ⟨rfl, rfl⟩, ⟨rfl, rfl⟩, trivial⟩ ⟨⟨rfl, trivial⟩, ⟨rfl, blt_lt rfl, exR_low _ _⟩, trivial⟩⟩
theorem markIntS_ok (l : List (Int)) (k : Int) (h1 : 1 ≤ k) (h2 : k + 4 * (wL (wNum0) l : Int) ≤ 1099511627776) {u : Value} {τ : FH} {L : List (Sh × D × Value)} (hT : Tr τ ((.im 3 shNum, .im (l.map eNum), u) :: L)) :
    BFun X 11 [.d (.s u), vi k] τ fun A τ' => A = .ret (vi (mkL mkNum l k).2) ∧ Tr τ' ((.im 3 shNum, .im ((mkL mkNum l k).1.map eNum), u) :: L) := by
  refine BFun.open hT rfl rfl ⟨_, Tryd.func11, by decide, rfl⟩ (by rw [List.length_map, List.length_map, mkL_len]) ?_
  intro V0 τ0 ha hT0
  rw [List.length_map]
  refine afun_of Tryd.func11 rfl (by decide) Tryd.ntmps11 Tryd.results11 (by simp) ?_
  repeat' first
    | refine Z1 ?_ | refine Z2 ?_ | refine Zo ?_ | refine ok_seq ?_ | refine ok_block ?_
  refine ok_for (ι := Nat × List (Int) × Int × List (List Value) × FH) (fun x_ => envL [(0, .sl 1 1 0 l.length), (1, vi x_.2.2.1), (5, vi x_.1)]) (fun x_ => stL [some (.box x_.2.2.2.2), some (.row 1 3 1 (exR x_.2.2.2.1))]) (fun x_ => x_.1 ≤ l.length ∧ x_.2.1.length = x_.1 ∧ 1 ≤ x_.2.2.1 ∧ (mkL mkNum (l.drop x_.1) x_.2.2.1).2 = (mkL mkNum l k).2 ∧ x_.2.1 ++ (mkL mkNum (l.drop x_.1) x_.2.2.1).1 = (mkL mkNum l k).1 ∧ agrs shNum ((x_.2.1 ++ l.drop x_.1).map eNum) x_.2.2.2.1 ∧ Tr x_.2.2.2.2 (subss shNum ((x_.2.1 ++ l.drop x_.1).map eNum) x_.2.2.2.1 ++ L) ∧ x_.2.2.1 + 4 * (wL (wNum0) (l.drop x_.1) : Int) ≤ 1099511627776) (fun x_ => l.length - x_.1) (0, [], k, V0, τ0) (⟨Nat.zero_le _, rfl, h1, rfl, rfl, ha, hT0, h2⟩) (weak_mk rfl ⟨.refl _, .refl _, .refl _, trivial⟩ ⟨⟨rfl, _, rfl, rfl⟩, ⟨rfl, _, rfl, rfl, rfl, rfl, rfl⟩, trivial⟩) (fun _ => Nat.le_refl 2) ?_
  rintro ⟨i, d, q, V, τ1⟩ ⟨i1, i2, i3, i4, i5, i6, i7, i8⟩
  simp only at i1 i2 i3 i4 i5 i6 i7 i8
  have hll : l.length ≤ wL (wNum0) l := Nat.le_add_right _ _
  show Ok _ _ _ _ (envL [(0, .sl 1 1 0 l.length), (1, vi q), (5, vi i)]) (stL [some (.box τ1), some (.row 1 3 1 (exR V))])
  rcases hx : l[i]? with _ | x
  · have hle := none_le hx
    have ek : decide ((i : Int) < ((l.length - 0 : Nat) : Int)) = false := decide_eq_false (by omega)
    rw [drop_none hx] at i4 i5 i6 i7
    simp only [mkL, List.append_nil] at i4 i5 i6 i7
    subst i5
    repeat' first
      | refine Z1 ?_ | refine Z2 ?_ | refine Zo ?_ | refine ok_seq ?_ | refine Zq ?_ | refine ok_exit ?_ | refine ok_ret ?_ | refine x_normal_then ?_ | refine x_exit_here ?_ | refine Zv ?_ | refine Zt ?_
    exact ⟨V, τ1, congrArg (fun v => AEnd.ret (vi v)) i4, rfl, rfl, i6, i7⟩
  · obtain ⟨hd, hlt⟩ := drop_some hx
    have ek : decide ((i : Int) < ((l.length - 0 : Nat) : Int)) = true := decide_eq_true (by omega)
    rw [hd] at i4 i5 i6 i7 i8
    rw [wL_cons'] at i8
    simp only [mkL] at i4 i5
    rw [List.map_append] at i6 i7
    obtain ⟨A, r, B, rfl, hA, a1, a2, a3⟩ := agrs_mid (A := d.map eNum) (B := (l.drop (i + 1)).map eNum) (x := eNum x) i6
    have hA' : A.length = i := by rw [List.length_map] at hA; omega
    have hcx := cntN x q
    have n3 : 1 ≤ (mkNum x q).2 := by omega
    have n8 : (mkNum x q).2 + 4 * (wL (wNum0) (l.drop (i + 1)) : Int) ≤ 1099511627776 := by omega
    have n5 : (d ++ [(mkNum x q).1]) ++ (mkL mkNum (l.drop (i + 1)) (mkNum x q).2).1 = (mkL mkNum l k).1 := by rw [List.append_assoc]; exact i5
    obtain ⟨r0, rfl⟩ := len1 (agr_len a2).2
    have n6 : agrs shNum (((d ++ [(mkNum x q).1]) ++ l.drop (i + 1)).map eNum) (A ++ [.int .i64 (q)] :: B) := by
      rw [List.append_assoc, List.map_append]
      exact agrs_app a1 ⟨by simp [agr, eNum, mkNum], a3⟩
    have n7 : Tr τ1 (subss shNum (((d ++ [(mkNum x q).1]) ++ l.drop (i + 1)).map eNum) (A ++ [.int .i64 (q)] :: B) ++ L) := by
      rw [subss_nil shNum_words] at i7 ⊢; exact i7
    repeat' first
      | refine Z1 ?_ | refine Z2 ?_ | refine Z3 ?_ | refine Z5 ?_ | refine op_place rfl rfl hlt rfl rfl rfl rfl ?_ | refine op_stw (A := A) (B := B) (r := [r0]) (r' := [.int .i64 (q)]) (c := 0) hA' rfl rfl rfl rfl rfl rfl rfl rfl ?_
      | refine Zf ?_ | refine Zo ?_ | refine ok_seq ?_ | refine ok_reg ?_ | refine Zp ?_ | refine ok_block ?_ | refine ok_skip ?_ | refine x_normal_then ?_ | refine x_normal_block ?_
    exact ⟨(i + 1, d ++ [(mkNum x q).1], (mkNum x q).2, A ++ [.int .i64 (q)] :: B, τ1), ⟨hlt, by simp [i2], n3, i4, n5, n6, n7, n8⟩, by (try simp only); omega, low_mk (Nat.le_of_ble_eq_true rfl) ⟨⟨rfl, rfl⟩, ⟨rfl, rfl⟩, ⟨rfl, rfl⟩, trivial⟩ ⟨⟨rfl, trivial⟩, ⟨rfl, blt_lt rfl, exR_low _ _⟩, trivial⟩⟩
theorem markItemS_ok (l : List (Itm)) (k : Int) (h1 : 1 ≤ k) (h2 : k + 4 * (wL (wItm) l : Int) ≤ 1099511627776) {u : Value} {τ : FH} {L : List (Sh × D × Value)} (hT : Tr τ ((.im 119 shItm, .im (l.map eItm), u) :: L)) :
    BFun X 51 [.d (.s u), vi k] τ fun A τ' => A = .ret (vi (mkL mkItm l k).2) ∧ Tr τ' ((.im 119 shItm, .im ((mkL mkItm l k).1.map eItm), u) :: L) := by
  refine BFun.open hT rfl rfl ⟨_, Tryd.func51, by decide, rfl⟩ (by rw [List.length_map, List.length_map, mkL_len]) ?_
  intro V0 τ0 ha hT0
  rw [List.length_map]
  refine afun_of Tryd.func51 rfl (by decide) Tryd.ntmps51 Tryd.results51 (by simp) ?_
  repeat' first
    | refine Z1 ?_ | refine Z2 ?_ | refine Zo ?_ | refine ok_seq ?_ | refine ok_block ?_
  refine ok_for (ι := Nat × List (Itm) × Int × List (List Value) × FH) (fun x_ => envL [(0, .sl 1 1 0 l.length), (1, vi x_.2.2.1), (5, vi x_.1)]) (fun x_ => stL [some (.box x_.2.2.2.2), some (.row 1 119 3 (exR x_.2.2.2.1))]) (fun x_ => x_.1 ≤ l.length ∧ x_.2.1.length = x_.1 ∧ 1 ≤ x_.2.2.1 ∧ (mkL mkItm (l.drop x_.1) x_.2.2.1).2 = (mkL mkItm l k).2 ∧ x_.2.1 ++ (mkL mkItm (l.drop x_.1) x_.2.2.1).1 = (mkL mkItm l k).1 ∧ agrs shItm ((x_.2.1 ++ l.drop x_.1).map eItm) x_.2.2.2.1 ∧ Tr x_.2.2.2.2 (subss shItm ((x_.2.1 ++ l.drop x_.1).map eItm) x_.2.2.2.1 ++ L) ∧ x_.2.2.1 + 4 * (wL (wItm) (l.drop x_.1) : Int) ≤ 1099511627776) (fun x_ => l.length - x_.1) (0, [], k, V0, τ0) (⟨Nat.zero_le _, rfl, h1, rfl, rfl, ha, hT0, h2⟩) (weak_mk rfl ⟨.refl _, .refl _, .refl _, trivial⟩ ⟨⟨rfl, _, rfl, rfl⟩, ⟨rfl, _, rfl, rfl, rfl, rfl, rfl⟩, trivial⟩) (fun _ => Nat.le_refl 2) ?_
  rintro ⟨i, d, q, V, τ1⟩ ⟨i1, i2, i3, i4, i5, i6, i7, i8⟩
  simp only at i1 i2 i3 i4 i5 i6 i7 i8
  have hll : l.length ≤ wL (wItm) l := Nat.le_add_right _ _
  show Ok _ _ _ _ (envL [(0, .sl 1 1 0 l.length), (1, vi q), (5, vi i)]) (stL [some (.box τ1), some (.row 1 119 3 (exR V))])
  rcases hx : l[i]? with _ | x
  · have hle := none_le hx
    have ek : decide ((i : Int) < ((l.length - 0 : Nat) : Int)) = false := decide_eq_false (by omega)
    rw [drop_none hx] at i4 i5 i6 i7
    simp only [mkL, List.append_nil] at i4 i5 i6 i7
    subst i5
    repeat' first
      | refine Z1 ?_ | refine Z2 ?_ | refine Zo ?_ | refine ok_seq ?_ | refine Zq ?_ | refine ok_exit ?_ | refine ok_ret ?_ | refine x_normal_then ?_ | refine x_exit_here ?_ | refine Zv ?_ | refine Zt ?_
    exact ⟨V, τ1, congrArg (fun v => AEnd.ret (vi v)) i4, rfl, rfl, i6, i7⟩
  · obtain ⟨hd, hlt⟩ := drop_some hx
    have ek : decide ((i : Int) < ((l.length - 0 : Nat) : Int)) = true := decide_eq_true (by omega)
    rw [hd] at i4 i5 i6 i7 i8
    rw [wL_cons'] at i8
    simp only [mkL] at i4 i5
    rw [List.map_append] at i6 i7
    obtain ⟨A, r, B, rfl, hA, a1, a2, a3⟩ := agrs_mid (A := d.map eItm) (B := (l.drop (i + 1)).map eItm) (x := eItm x) i6
    have hA' : A.length = i := by rw [List.length_map] at hA; omega
    have hcx := cntI x q
    have n3 : 1 ≤ (mkItm x q).2 := by omega
    have n8 : (mkItm x q).2 + 4 * (wL (wItm) (l.drop (i + 1)) : Int) ≤ 1099511627776 := by omega
    have n5 : (d ++ [(mkItm x q).1]) ++ (mkL mkItm (l.drop (i + 1)) (mkItm x q).2).1 = (mkL mkItm l k).1 := by rw [List.append_assoc]; exact i5
    obtain ⟨r0, r1, r2, rfl⟩ := len3 (agr_len a2).2
    have n6 : agrs shItm (((d ++ [(mkItm x q).1]) ++ l.drop (i + 1)).map eItm) (A ++ [.int .i64 (q), .int .i64 (q + 1), .string (markT (q + 1 + 1))] :: B) := by
      rw [List.append_assoc, List.map_append]
      exact agrs_app a1 ⟨by simp [agr, eItm, mkItm], a3⟩
    have n7 : Tr τ1 (subss shItm (((d ++ [(mkItm x q).1]) ++ l.drop (i + 1)).map eItm) (A ++ [.int .i64 (q), .int .i64 (q + 1), .string (markT (q + 1 + 1))] :: B) ++ L) := by
      rw [subss_nil shItm_words] at i7 ⊢; exact i7
    repeat' first
      | refine Z1 ?_ | refine Z2 ?_ | refine Z3 ?_ | refine Z5 ?_ | refine op_place rfl rfl hlt rfl rfl rfl rfl ?_ | refine Zc (markText_ok (q + 1 + 1) (by omega) (by omega)) ?_
      | refine op_stw (A := A) (B := B) (r := [r0, r1, r2]) (r' := [.int .i64 (q), r1, r2]) (c := 0) hA' rfl rfl rfl rfl rfl rfl rfl rfl ?_
      | refine op_stw (A := A) (B := B) (r := [.int .i64 (q), r1, r2]) (r' := [.int .i64 (q), .int .i64 (q + 1), r2]) (c := 1) hA' rfl rfl rfl rfl rfl rfl rfl rfl ?_
      | refine op_stw (A := A) (B := B) (r := [.int .i64 (q), .int .i64 (q + 1), r2]) (r' := [.int .i64 (q), .int .i64 (q + 1), .string (markT (q + 1 + 1))]) (c := 2) hA' rfl rfl rfl rfl rfl rfl rfl rfl ?_ | refine Zf ?_ | refine Zo ?_
      | refine ok_seq ?_ | refine ok_reg ?_ | refine Zp ?_ | refine ok_block ?_ | refine ok_skip ?_ | refine x_normal_then ?_ | refine x_normal_block ?_
    exact ⟨(i + 1, d ++ [(mkItm x q).1], (mkItm x q).2, A ++ [.int .i64 (q), .int .i64 (q + 1), .string (markT (q + 1 + 1))] :: B, τ1), ⟨hlt, by simp [i2], n3, i4, n5, n6, n7, n8⟩, by (try simp only); omega, low_mk (Nat.le_of_ble_eq_true rfl) ⟨⟨rfl, rfl⟩, ⟨rfl, rfl⟩, ⟨rfl, rfl⟩, trivial⟩ ⟨⟨rfl, trivial⟩, ⟨rfl, blt_lt rfl, exR_low _ _⟩, trivial⟩⟩
theorem markSlotS_ok (l : List (Slt)) (k : Int) (h1 : 1 ≤ k) (h2 : k + 4 * (wL (wSlt) l : Int) ≤ 1099511627776) {u : Value} {τ : FH} {L : List (Sh × D × Value)} (hT : Tr τ ((.im 79 shSlt, .im (l.map eSlt), u) :: L)) :
    BFun X 27 [.d (.s u), vi k] τ fun A τ' => A = .ret (vi (mkL mkSlt l k).2) ∧ Tr τ' ((.im 79 shSlt, .im ((mkL mkSlt l k).1.map eSlt), u) :: L) := by
  refine BFun.open hT rfl rfl ⟨_, Tryd.func27, by decide, rfl⟩ (by rw [List.length_map, List.length_map, mkL_len]) ?_
  intro V0 τ0 ha hT0
  rw [List.length_map]
  refine afun_of Tryd.func27 rfl (by decide) Tryd.ntmps27 Tryd.results27 (by simp) ?_
  repeat' first
    | refine Z1 ?_ | refine Z2 ?_ | refine Zo ?_ | refine ok_seq ?_ | refine ok_block ?_
  refine ok_for (ι := Nat × List (Slt) × Int × List (List Value) × FH) (fun x_ => envL [(0, .sl 1 1 0 l.length), (1, vi x_.2.2.1), (5, vi x_.1)]) (fun x_ => stL [some (.box x_.2.2.2.2), some (.row 1 79 2 (exR x_.2.2.2.1))]) (fun x_ => x_.1 ≤ l.length ∧ x_.2.1.length = x_.1 ∧ 1 ≤ x_.2.2.1 ∧ (mkL mkSlt (l.drop x_.1) x_.2.2.1).2 = (mkL mkSlt l k).2 ∧ x_.2.1 ++ (mkL mkSlt (l.drop x_.1) x_.2.2.1).1 = (mkL mkSlt l k).1 ∧ agrs shSlt ((x_.2.1 ++ l.drop x_.1).map eSlt) x_.2.2.2.1 ∧ Tr x_.2.2.2.2 (subss shSlt ((x_.2.1 ++ l.drop x_.1).map eSlt) x_.2.2.2.1 ++ L) ∧ x_.2.2.1 + 4 * (wL (wSlt) (l.drop x_.1) : Int) ≤ 1099511627776) (fun x_ => l.length - x_.1) (0, [], k, V0, τ0) (⟨Nat.zero_le _, rfl, h1, rfl, rfl, ha, hT0, h2⟩) (weak_mk rfl ⟨.refl _, .refl _, .refl _, trivial⟩ ⟨⟨rfl, _, rfl, rfl⟩, ⟨rfl, _, rfl, rfl, rfl, rfl, rfl⟩, trivial⟩) (fun _ => Nat.le_refl 2) ?_
  rintro ⟨i, d, q, V, τ1⟩ ⟨i1, i2, i3, i4, i5, i6, i7, i8⟩
  simp only at i1 i2 i3 i4 i5 i6 i7 i8
  have hll : l.length ≤ wL (wSlt) l := Nat.le_add_right _ _
  show Ok _ _ _ _ (envL [(0, .sl 1 1 0 l.length), (1, vi q), (5, vi i)]) (stL [some (.box τ1), some (.row 1 79 2 (exR V))])
  rcases hx : l[i]? with _ | x
  · have hle := none_le hx
    have ek : decide ((i : Int) < ((l.length - 0 : Nat) : Int)) = false := decide_eq_false (by omega)
    rw [drop_none hx] at i4 i5 i6 i7
    simp only [mkL, List.append_nil] at i4 i5 i6 i7
    subst i5
    repeat' first
      | refine Z1 ?_ | refine Z2 ?_ | refine Zo ?_ | refine ok_seq ?_ | refine Zq ?_ | refine ok_exit ?_ | refine ok_ret ?_ | refine x_normal_then ?_ | refine x_exit_here ?_ | refine Zv ?_ | refine Zt ?_
    exact ⟨V, τ1, congrArg (fun v => AEnd.ret (vi v)) i4, rfl, rfl, i6, i7⟩
  · obtain ⟨hd, hlt⟩ := drop_some hx
    have ek : decide ((i : Int) < ((l.length - 0 : Nat) : Int)) = true := decide_eq_true (by omega)
    rw [hd] at i4 i5 i6 i7 i8
    rw [wL_cons'] at i8
    simp only [mkL] at i4 i5
    rw [List.map_append] at i6 i7
    obtain ⟨A, r, B, rfl, hA, a1, a2, a3⟩ := agrs_mid (A := d.map eSlt) (B := (l.drop (i + 1)).map eSlt) (x := eSlt x) i6
    have hA' : A.length = i := by rw [List.length_map] at hA; omega
    have hcx := cntSl x q
    have n3 : 1 ≤ (mkSlt x q).2 := by omega
    have n8 : (mkSlt x q).2 + 4 * (wL (wSlt) (l.drop (i + 1)) : Int) ≤ 1099511627776 := by omega
    have n5 : (d ++ [(mkSlt x q).1]) ++ (mkL mkSlt (l.drop (i + 1)) (mkSlt x q).2).1 = (mkL mkSlt l k).1 := by rw [List.append_assoc]; exact i5
    obtain ⟨r0, r1, rfl⟩ := len2 (agr_len a2).2
    have n6 : agrs shSlt (((d ++ [(mkSlt x q).1]) ++ l.drop (i + 1)).map eSlt) (A ++ [.string (markT (q)), .int .i64 (q + 1)] :: B) := by
      rw [List.append_assoc, List.map_append]
      exact agrs_app a1 ⟨by simp [agr, eSlt, mkSlt], a3⟩
    have n7 : Tr τ1 (subss shSlt (((d ++ [(mkSlt x q).1]) ++ l.drop (i + 1)).map eSlt) (A ++ [.string (markT (q)), .int .i64 (q + 1)] :: B) ++ L) := by
      rw [subss_nil shSlt_words] at i7 ⊢; exact i7
    repeat' first
      | refine Z1 ?_ | refine Z2 ?_ | refine Z3 ?_ | refine Z5 ?_ | refine op_place rfl rfl hlt rfl rfl rfl rfl ?_ | refine Zc (markText_ok (q) (by omega) (by omega)) ?_
      | refine op_stw (A := A) (B := B) (r := [r0, r1]) (r' := [.string (markT (q)), r1]) (c := 0) hA' rfl rfl rfl rfl rfl rfl rfl rfl ?_
      | refine op_stw (A := A) (B := B) (r := [.string (markT (q)), r1]) (r' := [.string (markT (q)), .int .i64 (q + 1)]) (c := 1) hA' rfl rfl rfl rfl rfl rfl rfl rfl ?_ | refine Zf ?_ | refine Zo ?_ | refine ok_seq ?_ | refine ok_reg ?_
      | refine Zp ?_ | refine ok_block ?_ | refine ok_skip ?_ | refine x_normal_then ?_ | refine x_normal_block ?_
    exact ⟨(i + 1, d ++ [(mkSlt x q).1], (mkSlt x q).2, A ++ [.string (markT (q)), .int .i64 (q + 1)] :: B, τ1), ⟨hlt, by simp [i2], n3, i4, n5, n6, n7, n8⟩, by (try simp only); omega, low_mk (Nat.le_of_ble_eq_true rfl) ⟨⟨rfl, rfl⟩, ⟨rfl, rfl⟩, ⟨rfl, rfl⟩, trivial⟩ ⟨⟨rfl, trivial⟩, ⟨rfl, blt_lt rfl, exR_low _ _⟩, trivial⟩⟩
theorem markItemSS_ok (l : List (List Itm)) (k : Int) (h1 : 1 ≤ k) (h2 : k + 4 * (wL (wL wItm) l : Int) ≤ 1099511627776) {u : Value} {τ : FH} {L : List (Sh × D × Value)} (hT : Tr τ ((.im 81 shItms, .im (l.map eItms), u) :: L)) :
    BFun X 52 [.d (.s u), vi k] τ fun A τ' => A = .ret (vi (mkL mkItms l k).2) ∧ Tr τ' ((.im 81 shItms, .im ((mkL mkItms l k).1.map eItms), u) :: L) := by
  refine BFun.open hT rfl rfl ⟨_, Tryd.func52, by decide, rfl⟩ (by rw [List.length_map, List.length_map, mkL_len]) ?_
  intro V0 τ0 ha hT0
  rw [List.length_map]
  refine afun_of Tryd.func52 rfl (by decide) Tryd.ntmps52 Tryd.results52 (by simp) ?_
  repeat' first
    | refine Z1 ?_ | refine Z2 ?_ | refine Zo ?_ | refine ok_seq ?_ | refine ok_block ?_
  refine ok_for (ι := Nat × List (List Itm) × Int × List (List Value) × FH) (fun x_ => envL [(0, .sl 1 1 0 l.length), (1, vi x_.2.2.1), (5, vi x_.1)]) (fun x_ => stL [some (.box x_.2.2.2.2), some (.row 1 81 1 (exR x_.2.2.2.1))]) (fun x_ => x_.1 ≤ l.length ∧ x_.2.1.length = x_.1 ∧ 1 ≤ x_.2.2.1 ∧ (mkL mkItms (l.drop x_.1) x_.2.2.1).2 = (mkL mkItms l k).2 ∧ x_.2.1 ++ (mkL mkItms (l.drop x_.1) x_.2.2.1).1 = (mkL mkItms l k).1 ∧ agrs shItms ((x_.2.1 ++ l.drop x_.1).map eItms) x_.2.2.2.1 ∧ Tr x_.2.2.2.2 (subss shItms ((x_.2.1 ++ l.drop x_.1).map eItms) x_.2.2.2.1 ++ L) ∧ x_.2.2.1 + 4 * (wL (wL wItm) (l.drop x_.1) : Int) ≤ 1099511627776) (fun x_ => l.length - x_.1) (0, [], k, V0, τ0) (⟨Nat.zero_le _, rfl, h1, rfl, rfl, ha, hT0, h2⟩) (weak_mk rfl ⟨.refl _, .refl _, .refl _, trivial⟩ ⟨⟨rfl, _, rfl, rfl⟩, ⟨rfl, _, rfl, rfl, rfl, rfl, rfl⟩, trivial⟩) (fun _ => Nat.le_refl 2) ?_
  rintro ⟨i, d, q, V, τ1⟩ ⟨i1, i2, i3, i4, i5, i6, i7, i8⟩
  simp only at i1 i2 i3 i4 i5 i6 i7 i8
  have hll : l.length ≤ wL (wL wItm) l := Nat.le_add_right _ _
  show Ok _ _ _ _ (envL [(0, .sl 1 1 0 l.length), (1, vi q), (5, vi i)]) (stL [some (.box τ1), some (.row 1 81 1 (exR V))])
  rcases hx : l[i]? with _ | x
  · have hle := none_le hx
    have ek : decide ((i : Int) < ((l.length - 0 : Nat) : Int)) = false := decide_eq_false (by omega)
    rw [drop_none hx] at i4 i5 i6 i7
    simp only [mkL, List.append_nil] at i4 i5 i6 i7
    subst i5
    repeat' first
      | refine Z1 ?_ | refine Z2 ?_ | refine Zo ?_ | refine ok_seq ?_ | refine Zq ?_ | refine ok_exit ?_ | refine ok_ret ?_ | refine x_normal_then ?_ | refine x_exit_here ?_ | refine Zv ?_ | refine Zt ?_
    exact ⟨V, τ1, congrArg (fun v => AEnd.ret (vi v)) i4, rfl, rfl, i6, i7⟩
  · obtain ⟨hd, hlt⟩ := drop_some hx
    have ek : decide ((i : Int) < ((l.length - 0 : Nat) : Int)) = true := decide_eq_true (by omega)
    rw [hd] at i4 i5 i6 i7 i8
    rw [wL_cons'] at i8
    simp only [mkL] at i4 i5
    rw [List.map_append] at i6 i7
    obtain ⟨A, r, B, rfl, hA, a1, a2, a3⟩ := agrs_mid (A := d.map eItms) (B := (l.drop (i + 1)).map eItms) (x := eItms x) i6
    have hA' : A.length = i := by rw [List.length_map] at hA; omega
    have hcx := cntIs x q
    have n3 : 1 ≤ (mkItms x q).2 := by omega
    have n8 : (mkItms x q).2 + 4 * (wL (wL wItm) (l.drop (i + 1)) : Int) ≤ 1099511627776 := by omega
    have n5 : (d ++ [(mkItms x q).1]) ++ (mkL mkItms (l.drop (i + 1)) (mkItms x q).2).1 = (mkL mkItms l k).1 := by rw [List.append_assoc]; exact i5
    obtain ⟨r0, rfl⟩ := len1 (agr_len a2).2
    rw [subss_app hA] at i7
    have t0 : Tr τ1 (([(.im 119 shItm, .im (x.map eItm), r0)] : List (Sh × D × Value)) ++ (subss shItms (d.map eItms) A ++ (subss shItms ((l.drop (i + 1)).map eItms) B ++ L))) := by
      refine i7.perm ?_
      rw [List.append_assoc]
      show List.Perm (_ ++ ((([(.im 119 shItm, .im (x.map eItm), r0)] : List (Sh × D × Value)) ++ _) ++ _)) _
      rw [List.append_assoc]
      exact List.perm_append_comm_assoc _ _ _
    have c0 := cntL cntI x (q)
    have p0 := t0
    repeat' first
      | refine Z1 ?_ | refine Z2 ?_ | refine Z5 ?_ | refine op_place rfl rfl hlt rfl rfl rfl rfl ?_ | refine op_ldw (A := A) (B := B) (r := [r0]) (v := r0) (c := 0) hA' rfl rfl rfl rfl rfl rfl ?_
      | refine Yxx ((markItemS_ok x (q) (by omega) (by omega) p0).at (i := 0) rfl) ?_ | refine Zo ?_ | refine ok_seq ?_ | refine ok_reg ?_ | refine Zp ?_ | refine ok_block ?_ | refine ok_skip ?_ | refine x_normal_then ?_
    rintro Z σ2 ⟨τ2, ⟨rfl, t1⟩, rfl⟩
    refine ⟨_, rfl, ?_⟩
    have n6 : agrs shItms (((d ++ [(mkItms x q).1]) ++ l.drop (i + 1)).map eItms) (A ++ [r0] :: B) := by
      rw [List.append_assoc, List.map_append]
      exact agrs_app a1 ⟨by simp [agr, eItms, mkItms], a3⟩
    have n7 : Tr τ2 (subss shItms (((d ++ [(mkItms x q).1]) ++ l.drop (i + 1)).map eItms) (A ++ [r0] :: B) ++ L) := by
      rw [List.append_assoc, List.map_append, subss_app hA]
      refine t1.perm ?_
      refine List.Perm.trans (List.Perm.append_right (subss shItms (d.map eItms) A ++ (subss shItms ((l.drop (i + 1)).map eItms) B ++ L)) (show List.Perm (α := Sh × D × Value) [(.im 119 shItm, .im ((mkL mkItm x (q)).1.map eItm), r0)] [(.im 119 shItm, .im ((mkL mkItm x (q)).1.map eItm), r0)] from List.reverse_perm (α := Sh × D × Value) [(.im 119 shItm, .im ((mkL mkItm x (q)).1.map eItm), r0)])) ?_
      rw [List.append_assoc]
      show List.Perm _ (_ ++ ((([(.im 119 shItm, .im ((mkL mkItm x (q)).1.map eItm), r0)] : List (Sh × D × Value)) ++ _) ++ _))
      rw [List.append_assoc]
      exact List.perm_append_comm_assoc _ _ _
    repeat' first
      | refine Z1 ?_ | refine Z2 ?_ | refine Z3 ?_ | refine Z5 ?_ | refine Zf ?_ | refine ok_reg ?_ | refine x_normal_then ?_ | refine x_normal_block ?_
    exact ⟨(i + 1, d ++ [(mkItms x q).1], (mkItms x q).2, A ++ [r0] :: B, τ2), ⟨hlt, by simp [i2], n3, i4, n5, n6, n7, n8⟩, by (try simp only); omega, low_mk (Nat.le_of_ble_eq_true rfl) ⟨⟨rfl, rfl⟩, ⟨rfl, rfl⟩, ⟨rfl, rfl⟩, trivial⟩ ⟨⟨rfl, trivial⟩, ⟨rfl, blt_lt rfl, exR_low _ _⟩, trivial⟩⟩
theorem markStmS_ok (l : List (Sm)) (k : Int) (h1 : 1 ≤ k) (h2 : k + 4 * (wL (wSm) l : Int) ≤ 1099511627776) {u : Value} {τ : FH} {L : List (Sh × D × Value)} (hT : Tr τ ((.im 84 shSm, .im (l.map eSm), u) :: L)) :
    BFun X 29 [.d (.s u), vi k] τ fun A τ' => A = .ret (vi (mkL mkSm l k).2) ∧ Tr τ' ((.im 84 shSm, .im ((mkL mkSm l k).1.map eSm), u) :: L) := by
  refine BFun.open hT rfl rfl ⟨_, Tryd.func29, by decide, rfl⟩ (by rw [List.length_map, List.length_map, mkL_len]) ?_
  intro V0 τ0 ha hT0
  rw [List.length_map]
  refine afun_of Tryd.func29 rfl (by decide) Tryd.ntmps29 Tryd.results29 (by simp) ?_
  repeat' first
    | refine Z1 ?_ | refine Z2 ?_ | refine Zo ?_ | refine ok_seq ?_ | refine ok_block ?_
  refine ok_for (ι := Nat × List (Sm) × Int × List (List Value) × FH) (fun x_ => envL [(0, .sl 1 1 0 l.length), (1, vi x_.2.2.1), (5, vi x_.1)]) (fun x_ => stL [some (.box x_.2.2.2.2), some (.row 1 84 6 (exR x_.2.2.2.1))]) (fun x_ => x_.1 ≤ l.length ∧ x_.2.1.length = x_.1 ∧ 1 ≤ x_.2.2.1 ∧ (mkL mkSm (l.drop x_.1) x_.2.2.1).2 = (mkL mkSm l k).2 ∧ x_.2.1 ++ (mkL mkSm (l.drop x_.1) x_.2.2.1).1 = (mkL mkSm l k).1 ∧ agrs shSm ((x_.2.1 ++ l.drop x_.1).map eSm) x_.2.2.2.1 ∧ Tr x_.2.2.2.2 (subss shSm ((x_.2.1 ++ l.drop x_.1).map eSm) x_.2.2.2.1 ++ L) ∧ x_.2.2.1 + 4 * (wL (wSm) (l.drop x_.1) : Int) ≤ 1099511627776) (fun x_ => l.length - x_.1) (0, [], k, V0, τ0) (⟨Nat.zero_le _, rfl, h1, rfl, rfl, ha, hT0, h2⟩) (weak_mk rfl ⟨.refl _, .refl _, .refl _, trivial⟩ ⟨⟨rfl, _, rfl, rfl⟩, ⟨rfl, _, rfl, rfl, rfl, rfl, rfl⟩, trivial⟩) (fun _ => Nat.le_refl 2) ?_
  rintro ⟨i, d, q, V, τ1⟩ ⟨i1, i2, i3, i4, i5, i6, i7, i8⟩
  simp only at i1 i2 i3 i4 i5 i6 i7 i8
  have hll : l.length ≤ wL (wSm) l := Nat.le_add_right _ _
  show Ok _ _ _ _ (envL [(0, .sl 1 1 0 l.length), (1, vi q), (5, vi i)]) (stL [some (.box τ1), some (.row 1 84 6 (exR V))])
  rcases hx : l[i]? with _ | x
  · have hle := none_le hx
    have ek : decide ((i : Int) < ((l.length - 0 : Nat) : Int)) = false := decide_eq_false (by omega)
    rw [drop_none hx] at i4 i5 i6 i7
    simp only [mkL, List.append_nil] at i4 i5 i6 i7
    subst i5
    repeat' first
      | refine Z1 ?_ | refine Z2 ?_ | refine Zo ?_ | refine ok_seq ?_ | refine Zq ?_ | refine ok_exit ?_ | refine ok_ret ?_ | refine x_normal_then ?_ | refine x_exit_here ?_ | refine Zv ?_ | refine Zt ?_
    exact ⟨V, τ1, congrArg (fun v => AEnd.ret (vi v)) i4, rfl, rfl, i6, i7⟩
  · obtain ⟨hd, hlt⟩ := drop_some hx
    have ek : decide ((i : Int) < ((l.length - 0 : Nat) : Int)) = true := decide_eq_true (by omega)
    rw [hd] at i4 i5 i6 i7 i8
    rw [wL_cons'] at i8
    simp only [mkL] at i4 i5
    rw [List.map_append] at i6 i7
    obtain ⟨A, r, B, rfl, hA, a1, a2, a3⟩ := agrs_mid (A := d.map eSm) (B := (l.drop (i + 1)).map eSm) (x := eSm x) i6
    have hA' : A.length = i := by rw [List.length_map] at hA; omega
    have hcx := cntSm x q
    have n3 : 1 ≤ (mkSm x q).2 := by omega
    have n8 : (mkSm x q).2 + 4 * (wL (wSm) (l.drop (i + 1)) : Int) ≤ 1099511627776 := by omega
    have n5 : (d ++ [(mkSm x q).1]) ++ (mkL mkSm (l.drop (i + 1)) (mkSm x q).2).1 = (mkL mkSm l k).1 := by rw [List.append_assoc]; exact i5
    obtain ⟨r0, r1, r2, r3, r4, r5, rfl⟩ := len6 (agr_len a2).2
    rw [subss_app hA] at i7
    have t0 : Tr τ1 (([(.im 9 shStr, .im (x.outs.map eStr), r3), (.im 119 shItm, .im (x.code.map eItm), r4), (.im 81 shItms, .im (x.args.map eItms), r5)] : List (Sh × D × Value)) ++ (subss shSm (d.map eSm) A ++ (subss shSm ((l.drop (i + 1)).map eSm) B ++ L))) := by
      refine i7.perm ?_
      rw [List.append_assoc]
      show List.Perm (_ ++ ((([(.im 9 shStr, .im (x.outs.map eStr), r3), (.im 119 shItm, .im (x.code.map eItm), r4), (.im 81 shItms, .im (x.args.map eItms), r5)] : List (Sh × D × Value)) ++ _) ++ _)) _
      rw [List.append_assoc]
      exact List.perm_append_comm_assoc _ _ _
    simp only [wSm] at i8 hcx
    have c0 := cntL cntS x.outs (q + 1 + 1 + 1)
    have p0 := t0
    repeat' first
      | refine Z1 ?_ | refine Z2 ?_ | refine Z5 ?_ | refine op_place rfl rfl hlt rfl rfl rfl rfl ?_
      | refine op_stw (A := A) (B := B) (r := [r0, r1, r2, r3, r4, r5]) (r' := [.int .i64 (q), r1, r2, r3, r4, r5]) (c := 0) hA' rfl rfl rfl rfl rfl rfl rfl rfl ?_ | refine Zc (markText_ok (q + 1) (by omega) (by omega)) ?_
      | refine op_stw (A := A) (B := B) (r := [.int .i64 (q), r1, r2, r3, r4, r5]) (r' := [.int .i64 (q), .string (markT (q + 1)), r2, r3, r4, r5]) (c := 1) hA' rfl rfl rfl rfl rfl rfl rfl rfl ?_
      | refine op_stw (A := A) (B := B) (r := [.int .i64 (q), .string (markT (q + 1)), r2, r3, r4, r5]) (r' := [.int .i64 (q), .string (markT (q + 1)), .int .i64 (q + 1 + 1), r3, r4, r5]) (c := 2) hA' rfl rfl rfl rfl rfl rfl rfl rfl ?_
      | refine op_ldw (A := A) (B := B) (r := [.int .i64 (q), .string (markT (q + 1)), .int .i64 (q + 1 + 1), r3, r4, r5]) (v := r3) (c := 3) hA' rfl rfl rfl rfl rfl rfl ?_
      | refine Yxx ((markStringS_ok x.outs (q + 1 + 1 + 1) (by omega) (by omega) p0).at (i := 0) rfl) ?_ | refine Zf ?_ | refine Zo ?_ | refine ok_seq ?_ | refine Zp ?_ | refine ok_block ?_ | refine ok_skip ?_ | refine x_normal_then ?_
    rintro Z σ2 ⟨τ2, ⟨rfl, t1⟩, rfl⟩
    refine ⟨_, rfl, ?_⟩
    have c1 := cntL cntI x.code ((mkL mkStr x.outs (q + 1 + 1 + 1)).2)
    have p1 := t1.perm (List.perm_middle (l₁ := [(.im 9 shStr, .im ((mkL mkStr x.outs (q + 1 + 1 + 1)).1.map eStr), r3)]))
    repeat' first
      | refine Z1 ?_ | refine Z2 ?_ | refine Z5 ?_ | refine op_place rfl rfl hlt rfl rfl rfl rfl ?_
      | refine op_ldw (A := A) (B := B) (r := [.int .i64 (q), .string (markT (q + 1)), .int .i64 (q + 1 + 1), r3, r4, r5]) (v := r4) (c := 4) hA' rfl rfl rfl rfl rfl rfl ?_
      | refine Yxx ((markItemS_ok x.code ((mkL mkStr x.outs (q + 1 + 1 + 1)).2) (by omega) (by omega) p1).at (i := 0) rfl) ?_ | refine Zo ?_
    rintro Z σ3 ⟨τ3, ⟨rfl, t2⟩, rfl⟩
    refine ⟨_, rfl, ?_⟩
    have c2 := cntL cntIs x.args ((mkL mkItm x.code ((mkL mkStr x.outs (q + 1 + 1 + 1)).2)).2)
    have p2 := t2.perm (List.perm_middle (l₁ := [(.im 119 shItm, .im ((mkL mkItm x.code ((mkL mkStr x.outs (q + 1 + 1 + 1)).2)).1.map eItm), r4), (.im 9 shStr, .im ((mkL mkStr x.outs (q + 1 + 1 + 1)).1.map eStr), r3)]))
    repeat' first
      | refine Z1 ?_ | refine Z2 ?_ | refine Z5 ?_ | refine op_place rfl rfl hlt rfl rfl rfl rfl ?_
      | refine op_ldw (A := A) (B := B) (r := [.int .i64 (q), .string (markT (q + 1)), .int .i64 (q + 1 + 1), r3, r4, r5]) (v := r5) (c := 5) hA' rfl rfl rfl rfl rfl rfl ?_
      | refine Yxx ((markItemSS_ok x.args ((mkL mkItm x.code ((mkL mkStr x.outs (q + 1 + 1 + 1)).2)).2) (by omega) (by omega) p2).at (i := 0) rfl) ?_ | refine ok_reg ?_
    rintro Z σ4 ⟨τ4, ⟨rfl, t3⟩, rfl⟩
    refine ⟨_, rfl, ?_⟩
    have n6 : agrs shSm (((d ++ [(mkSm x q).1]) ++ l.drop (i + 1)).map eSm) (A ++ [.int .i64 (q), .string (markT (q + 1)), .int .i64 (q + 1 + 1), r3, r4, r5] :: B) := by
      rw [List.append_assoc, List.map_append]
      exact agrs_app a1 ⟨by simp [agr, eSm, mkSm], a3⟩
    have n7 : Tr τ4 (subss shSm (((d ++ [(mkSm x q).1]) ++ l.drop (i + 1)).map eSm) (A ++ [.int .i64 (q), .string (markT (q + 1)), .int .i64 (q + 1 + 1), r3, r4, r5] :: B) ++ L) := by
      rw [List.append_assoc, List.map_append, subss_app hA]
      refine t3.perm ?_
      refine List.Perm.trans (List.Perm.append_right (subss shSm (d.map eSm) A ++ (subss shSm ((l.drop (i + 1)).map eSm) B ++ L)) (show List.Perm (α := Sh × D × Value) [(.im 81 shItms, .im ((mkL mkItms x.args ((mkL mkItm x.code ((mkL mkStr x.outs (q + 1 + 1 + 1)).2)).2)).1.map eItms), r5), (.im 119 shItm, .im ((mkL mkItm x.code ((mkL mkStr x.outs (q + 1 + 1 + 1)).2)).1.map eItm), r4), (.im 9 shStr, .im ((mkL mkStr x.outs (q + 1 + 1 + 1)).1.map eStr), r3)] [(.im 9 shStr, .im ((mkL mkStr x.outs (q + 1 + 1 + 1)).1.map eStr), r3), (.im 119 shItm, .im ((mkL mkItm x.code ((mkL mkStr x.outs (q + 1 + 1 + 1)).2)).1.map eItm), r4), (.im 81 shItms, .im ((mkL mkItms x.args ((mkL mkItm x.code ((mkL mkStr x.outs (q + 1 + 1 + 1)).2)).2)).1.map eItms), r5)] from List.reverse_perm (α := Sh × D × Value) [(.im 9 shStr, .im ((mkL mkStr x.outs (q + 1 + 1 + 1)).1.map eStr), r3), (.im 119 shItm, .im ((mkL mkItm x.code ((mkL mkStr x.outs (q + 1 + 1 + 1)).2)).1.map eItm), r4), (.im 81 shItms, .im ((mkL mkItms x.args ((mkL mkItm x.code ((mkL mkStr x.outs (q + 1 + 1 + 1)).2)).2)).1.map eItms), r5)])) ?_
      rw [List.append_assoc]
      show List.Perm _ (_ ++ ((([(.im 9 shStr, .im ((mkL mkStr x.outs (q + 1 + 1 + 1)).1.map eStr), r3), (.im 119 shItm, .im ((mkL mkItm x.code ((mkL mkStr x.outs (q + 1 + 1 + 1)).2)).1.map eItm), r4), (.im 81 shItms, .im ((mkL mkItms x.args ((mkL mkItm x.code ((mkL mkStr x.outs (q + 1 + 1 + 1)).2)).2)).1.map eItms), r5)] : List (Sh × D × Value)) ++ _) ++ _))
      rw [List.append_assoc]
      exact List.perm_append_comm_assoc _ _ _
    repeat' first
      | refine Z1 ?_ | refine Z2 ?_ | refine Z3 ?_ | refine Z5 ?_ | refine Zf ?_ | refine ok_reg ?_ | refine x_normal_then ?_ | refine x_normal_block ?_
    exact ⟨(i + 1, d ++ [(mkSm x q).1], (mkSm x q).2, A ++ [.int .i64 (q), .string (markT (q + 1)), .int .i64 (q + 1 + 1), r3, r4, r5] :: B, τ4), ⟨hlt, by simp [i2], n3, i4, n5, n6, n7, n8⟩, by (try simp only); omega, low_mk (Nat.le_of_ble_eq_true rfl) ⟨⟨rfl, rfl⟩, ⟨rfl, rfl⟩, ⟨rfl, rfl⟩, trivial⟩ ⟨⟨rfl, trivial⟩, ⟨rfl, blt_lt rfl, exR_low _ _⟩, trivial⟩⟩
theorem markClassS_ok (l : List (Cls)) (k : Int) (h1 : 1 ≤ k) (h2 : k + 4 * (wL (wCls) l : Int) ≤ 1099511627776) {u : Value} {τ : FH} {L : List (Sh × D × Value)} (hT : Tr τ ((.im 53 shCls, .im (l.map eCls), u) :: L)) :
    BFun X 20 [.d (.s u), vi k] τ fun A τ' => A = .ret (vi (mkL mkCls l k).2) ∧ Tr τ' ((.im 53 shCls, .im ((mkL mkCls l k).1.map eCls), u) :: L) := by
  refine BFun.open hT rfl rfl ⟨_, Tryd.func20, by decide, rfl⟩ (by rw [List.length_map, List.length_map, mkL_len]) ?_
  intro V0 τ0 ha hT0
  rw [List.length_map]
  refine afun_of Tryd.func20 rfl (by decide) Tryd.ntmps20 Tryd.results20 (by simp) ?_
  repeat' first
    | refine Z1 ?_ | refine Z2 ?_ | refine Zo ?_ | refine ok_seq ?_ | refine ok_block ?_
  refine ok_for (ι := Nat × List (Cls) × Int × List (List Value) × FH) (fun x_ => envL [(0, .sl 1 1 0 l.length), (1, vi x_.2.2.1), (5, vi x_.1)]) (fun x_ => stL [some (.box x_.2.2.2.2), some (.row 1 53 7 (exR x_.2.2.2.1))]) (fun x_ => x_.1 ≤ l.length ∧ x_.2.1.length = x_.1 ∧ 1 ≤ x_.2.2.1 ∧ (mkL mkCls (l.drop x_.1) x_.2.2.1).2 = (mkL mkCls l k).2 ∧ x_.2.1 ++ (mkL mkCls (l.drop x_.1) x_.2.2.1).1 = (mkL mkCls l k).1 ∧ agrs shCls ((x_.2.1 ++ l.drop x_.1).map eCls) x_.2.2.2.1 ∧ Tr x_.2.2.2.2 (subss shCls ((x_.2.1 ++ l.drop x_.1).map eCls) x_.2.2.2.1 ++ L) ∧ x_.2.2.1 + 4 * (wL (wCls) (l.drop x_.1) : Int) ≤ 1099511627776) (fun x_ => l.length - x_.1) (0, [], k, V0, τ0) (⟨Nat.zero_le _, rfl, h1, rfl, rfl, ha, hT0, h2⟩) (weak_mk rfl ⟨.refl _, .refl _, .refl _, trivial⟩ ⟨⟨rfl, _, rfl, rfl⟩, ⟨rfl, _, rfl, rfl, rfl, rfl, rfl⟩, trivial⟩) (fun _ => Nat.le_refl 2) ?_
  rintro ⟨i, d, q, V, τ1⟩ ⟨i1, i2, i3, i4, i5, i6, i7, i8⟩
  simp only at i1 i2 i3 i4 i5 i6 i7 i8
  have hll : l.length ≤ wL (wCls) l := Nat.le_add_right _ _
  show Ok _ _ _ _ (envL [(0, .sl 1 1 0 l.length), (1, vi q), (5, vi i)]) (stL [some (.box τ1), some (.row 1 53 7 (exR V))])
  rcases hx : l[i]? with _ | x
  · have hle := none_le hx
    have ek : decide ((i : Int) < ((l.length - 0 : Nat) : Int)) = false := decide_eq_false (by omega)
    rw [drop_none hx] at i4 i5 i6 i7
    simp only [mkL, List.append_nil] at i4 i5 i6 i7
    subst i5
    repeat' first
      | refine Z1 ?_ | refine Z2 ?_ | refine Zo ?_ | refine ok_seq ?_ | refine Zq ?_ | refine ok_exit ?_ | refine ok_ret ?_ | refine x_normal_then ?_ | refine x_exit_here ?_ | refine Zv ?_ | refine Zt ?_
    exact ⟨V, τ1, congrArg (fun v => AEnd.ret (vi v)) i4, rfl, rfl, i6, i7⟩
  · obtain ⟨hd, hlt⟩ := drop_some hx
    have ek : decide ((i : Int) < ((l.length - 0 : Nat) : Int)) = true := decide_eq_true (by omega)
    rw [hd] at i4 i5 i6 i7 i8
    rw [wL_cons'] at i8
    simp only [mkL] at i4 i5
    rw [List.map_append] at i6 i7
    obtain ⟨A, r, B, rfl, hA, a1, a2, a3⟩ := agrs_mid (A := d.map eCls) (B := (l.drop (i + 1)).map eCls) (x := eCls x) i6
    have hA' : A.length = i := by rw [List.length_map] at hA; omega
    have hcx := cntCl x q
    have n3 : 1 ≤ (mkCls x q).2 := by omega
    have n8 : (mkCls x q).2 + 4 * (wL (wCls) (l.drop (i + 1)) : Int) ≤ 1099511627776 := by omega
    have n5 : (d ++ [(mkCls x q).1]) ++ (mkL mkCls (l.drop (i + 1)) (mkCls x q).2).1 = (mkL mkCls l k).1 := by rw [List.append_assoc]; exact i5
    obtain ⟨r0, r1, r2, r3, r4, r5, r6, rfl⟩ := len7 (agr_len a2).2
    rw [subss_app hA] at i7
    have t0 : Tr τ1 (([(.im 79 shSlt, .im (x.ins.map eSlt), r1), (.im 79 shSlt, .im (x.outs.map eSlt), r2), (.im 9 shStr, .im (x.locs.map eStr), r3), (.im 3 shNum, .im (x.mems.map eNum), r4), (.im 3 shNum, .im (x.insts.map eNum), r5), (.im 84 shSm, .im (x.body.map eSm), r6)] : List (Sh × D × Value)) ++ (subss shCls (d.map eCls) A ++ (subss shCls ((l.drop (i + 1)).map eCls) B ++ L))) := by
      refine i7.perm ?_
      rw [List.append_assoc]
      show List.Perm (_ ++ ((([(.im 79 shSlt, .im (x.ins.map eSlt), r1), (.im 79 shSlt, .im (x.outs.map eSlt), r2), (.im 9 shStr, .im (x.locs.map eStr), r3), (.im 3 shNum, .im (x.mems.map eNum), r4), (.im 3 shNum, .im (x.insts.map eNum), r5), (.im 84 shSm, .im (x.body.map eSm), r6)] : List (Sh × D × Value)) ++ _) ++ _)) _
      rw [List.append_assoc]
      exact List.perm_append_comm_assoc _ _ _
    simp only [wCls] at i8 hcx
    have c0 := cntL cntSl x.ins (q + 1)
    have p0 := t0
    repeat' first
      | refine Z1 ?_ | refine Z2 ?_ | refine Z5 ?_ | refine op_place rfl rfl hlt rfl rfl rfl rfl ?_ | refine Zc (markText_ok (q) (by omega) (by omega)) ?_
      | refine op_stw (A := A) (B := B) (r := [r0, r1, r2, r3, r4, r5, r6]) (r' := [.string (markT (q)), r1, r2, r3, r4, r5, r6]) (c := 0) hA' rfl rfl rfl rfl rfl rfl rfl rfl ?_
      | refine op_ldw (A := A) (B := B) (r := [.string (markT (q)), r1, r2, r3, r4, r5, r6]) (v := r1) (c := 1) hA' rfl rfl rfl rfl rfl rfl ?_ | refine Yxx ((markSlotS_ok x.ins (q + 1) (by omega) (by omega) p0).at (i := 0) rfl) ?_
      | refine Zf ?_ | refine Zo ?_ | refine ok_seq ?_ | refine Zp ?_ | refine ok_block ?_ | refine ok_skip ?_ | refine x_normal_then ?_
    rintro Z σ2 ⟨τ2, ⟨rfl, t1⟩, rfl⟩
    refine ⟨_, rfl, ?_⟩
    have c1 := cntL cntSl x.outs ((mkL mkSlt x.ins (q + 1)).2)
    have p1 := t1.perm (List.perm_middle (l₁ := [(.im 79 shSlt, .im ((mkL mkSlt x.ins (q + 1)).1.map eSlt), r1)]))
    repeat' first
      | refine Z1 ?_ | refine Z2 ?_ | refine Z5 ?_ | refine op_place rfl rfl hlt rfl rfl rfl rfl ?_ | refine op_ldw (A := A) (B := B) (r := [.string (markT (q)), r1, r2, r3, r4, r5, r6]) (v := r2) (c := 2) hA' rfl rfl rfl rfl rfl rfl ?_
      | refine Yxx ((markSlotS_ok x.outs ((mkL mkSlt x.ins (q + 1)).2) (by omega) (by omega) p1).at (i := 0) rfl) ?_ | refine Zo ?_
    rintro Z σ3 ⟨τ3, ⟨rfl, t2⟩, rfl⟩
    refine ⟨_, rfl, ?_⟩
    have c2 := cntL cntS x.locs ((mkL mkSlt x.outs ((mkL mkSlt x.ins (q + 1)).2)).2)
    have p2 := t2.perm (List.perm_middle (l₁ := [(.im 79 shSlt, .im ((mkL mkSlt x.outs ((mkL mkSlt x.ins (q + 1)).2)).1.map eSlt), r2), (.im 79 shSlt, .im ((mkL mkSlt x.ins (q + 1)).1.map eSlt), r1)]))
    repeat' first
      | refine Z1 ?_ | refine Z2 ?_ | refine Z5 ?_ | refine op_place rfl rfl hlt rfl rfl rfl rfl ?_ | refine op_ldw (A := A) (B := B) (r := [.string (markT (q)), r1, r2, r3, r4, r5, r6]) (v := r3) (c := 3) hA' rfl rfl rfl rfl rfl rfl ?_
      | refine Yxx ((markStringS_ok x.locs ((mkL mkSlt x.outs ((mkL mkSlt x.ins (q + 1)).2)).2) (by omega) (by omega) p2).at (i := 0) rfl) ?_ | refine Zo ?_
    rintro Z σ4 ⟨τ4, ⟨rfl, t3⟩, rfl⟩
    refine ⟨_, rfl, ?_⟩
    have c3 := cntL cntN x.mems ((mkL mkStr x.locs ((mkL mkSlt x.outs ((mkL mkSlt x.ins (q + 1)).2)).2)).2)
    have p3 := t3.perm (List.perm_middle (l₁ := [(.im 9 shStr, .im ((mkL mkStr x.locs ((mkL mkSlt x.outs ((mkL mkSlt x.ins (q + 1)).2)).2)).1.map eStr), r3), (.im 79 shSlt, .im ((mkL mkSlt x.outs ((mkL mkSlt x.ins (q + 1)).2)).1.map eSlt), r2), (.im 79 shSlt, .im ((mkL mkSlt x.ins (q + 1)).1.map eSlt), r1)]))
    repeat' first
      | refine Z1 ?_ | refine Z2 ?_ | refine Z5 ?_ | refine op_place rfl rfl hlt rfl rfl rfl rfl ?_ | refine op_ldw (A := A) (B := B) (r := [.string (markT (q)), r1, r2, r3, r4, r5, r6]) (v := r4) (c := 4) hA' rfl rfl rfl rfl rfl rfl ?_
      | refine Yxx ((markIntS_ok x.mems ((mkL mkStr x.locs ((mkL mkSlt x.outs ((mkL mkSlt x.ins (q + 1)).2)).2)).2) (by omega) (by omega) p3).at (i := 0) rfl) ?_ | refine Zo ?_
    rintro Z σ5 ⟨τ5, ⟨rfl, t4⟩, rfl⟩
    refine ⟨_, rfl, ?_⟩
    have c4 := cntL cntN x.insts ((mkL mkNum x.mems ((mkL mkStr x.locs ((mkL mkSlt x.outs ((mkL mkSlt x.ins (q + 1)).2)).2)).2)).2)
    have p4 := t4.perm (List.perm_middle (l₁ := [(.im 3 shNum, .im ((mkL mkNum x.mems ((mkL mkStr x.locs ((mkL mkSlt x.outs ((mkL mkSlt x.ins (q + 1)).2)).2)).2)).1.map eNum), r4), (.im 9 shStr, .im ((mkL mkStr x.locs ((mkL mkSlt x.outs ((mkL mkSlt x.ins (q + 1)).2)).2)).1.map eStr), r3), (.im 79 shSlt, .im ((mkL mkSlt x.outs ((mkL mkSlt x.ins (q + 1)).2)).1.map eSlt), r2), (.im 79 shSlt, .im ((mkL mkSlt x.ins (q + 1)).1.map eSlt), r1)]))
    repeat' first
      | refine Z1 ?_ | refine Z2 ?_ | refine Z5 ?_ | refine op_place rfl rfl hlt rfl rfl rfl rfl ?_ | refine op_ldw (A := A) (B := B) (r := [.string (markT (q)), r1, r2, r3, r4, r5, r6]) (v := r5) (c := 5) hA' rfl rfl rfl rfl rfl rfl ?_
      | refine Yxx ((markIntS_ok x.insts ((mkL mkNum x.mems ((mkL mkStr x.locs ((mkL mkSlt x.outs ((mkL mkSlt x.ins (q + 1)).2)).2)).2)).2) (by omega) (by omega) p4).at (i := 0) rfl) ?_ | refine Zo ?_
    rintro Z σ6 ⟨τ6, ⟨rfl, t5⟩, rfl⟩
    refine ⟨_, rfl, ?_⟩
    have c5 := cntL cntSm x.body ((mkL mkNum x.insts ((mkL mkNum x.mems ((mkL mkStr x.locs ((mkL mkSlt x.outs ((mkL mkSlt x.ins (q + 1)).2)).2)).2)).2)).2)
    have p5 := t5.perm (List.perm_middle (l₁ := [(.im 3 shNum, .im ((mkL mkNum x.insts ((mkL mkNum x.mems ((mkL mkStr x.locs ((mkL mkSlt x.outs ((mkL mkSlt x.ins (q + 1)).2)).2)).2)).2)).1.map eNum), r5), (.im 3 shNum, .im ((mkL mkNum x.mems ((mkL mkStr x.locs ((mkL mkSlt x.outs ((mkL mkSlt x.ins (q + 1)).2)).2)).2)).1.map eNum), r4), (.im 9 shStr, .im ((mkL mkStr x.locs ((mkL mkSlt x.outs ((mkL mkSlt x.ins (q + 1)).2)).2)).1.map eStr), r3), (.im 79 shSlt, .im ((mkL mkSlt x.outs ((mkL mkSlt x.ins (q + 1)).2)).1.map eSlt), r2), (.im 79 shSlt, .im ((mkL mkSlt x.ins (q + 1)).1.map eSlt), r1)]))
    repeat' first
      | refine Z1 ?_ | refine Z2 ?_ | refine Z5 ?_ | refine op_place rfl rfl hlt rfl rfl rfl rfl ?_ | refine op_ldw (A := A) (B := B) (r := [.string (markT (q)), r1, r2, r3, r4, r5, r6]) (v := r6) (c := 6) hA' rfl rfl rfl rfl rfl rfl ?_
      | refine Yxx ((markStmS_ok x.body ((mkL mkNum x.insts ((mkL mkNum x.mems ((mkL mkStr x.locs ((mkL mkSlt x.outs ((mkL mkSlt x.ins (q + 1)).2)).2)).2)).2)).2) (by omega) (by omega) p5).at (i := 0) rfl) ?_ | refine ok_reg ?_
    rintro Z σ7 ⟨τ7, ⟨rfl, t6⟩, rfl⟩
    refine ⟨_, rfl, ?_⟩
    have n6 : agrs shCls (((d ++ [(mkCls x q).1]) ++ l.drop (i + 1)).map eCls) (A ++ [.string (markT (q)), r1, r2, r3, r4, r5, r6] :: B) := by
      rw [List.append_assoc, List.map_append]
      exact agrs_app a1 ⟨by simp [agr, eCls, mkCls], a3⟩
    have n7 : Tr τ7 (subss shCls (((d ++ [(mkCls x q).1]) ++ l.drop (i + 1)).map eCls) (A ++ [.string (markT (q)), r1, r2, r3, r4, r5, r6] :: B) ++ L) := by
      rw [List.append_assoc, List.map_append, subss_app hA]
      refine t6.perm ?_
      refine List.Perm.trans (List.Perm.append_right (subss shCls (d.map eCls) A ++ (subss shCls ((l.drop (i + 1)).map eCls) B ++ L)) (show List.Perm (α := Sh × D × Value) [(.im 84 shSm, .im ((mkL mkSm x.body ((mkL mkNum x.insts ((mkL mkNum x.mems ((mkL mkStr x.locs ((mkL mkSlt x.outs ((mkL mkSlt x.ins (q + 1)).2)).2)).2)).2)).2)).1.map eSm), r6), (.im 3 shNum, .im ((mkL mkNum x.insts ((mkL mkNum x.mems ((mkL mkStr x.locs ((mkL mkSlt x.outs ((mkL mkSlt x.ins (q + 1)).2)).2)).2)).2)).1.map eNum), r5), (.im 3 shNum, .im ((mkL mkNum x.mems ((mkL mkStr x.locs ((mkL mkSlt x.outs ((mkL mkSlt x.ins (q + 1)).2)).2)).2)).1.map eNum), r4), (.im 9 shStr, .im ((mkL mkStr x.locs ((mkL mkSlt x.outs ((mkL mkSlt x.ins (q + 1)).2)).2)).1.map eStr), r3), (.im 79 shSlt, .im ((mkL mkSlt x.outs ((mkL mkSlt x.ins (q + 1)).2)).1.map eSlt), r2), (.im 79 shSlt, .im ((mkL mkSlt x.ins (q + 1)).1.map eSlt), r1)] [(.im 79 shSlt, .im ((mkL mkSlt x.ins (q + 1)).1.map eSlt), r1), (.im 79 shSlt, .im ((mkL mkSlt x.outs ((mkL mkSlt x.ins (q + 1)).2)).1.map eSlt), r2), (.im 9 shStr, .im ((mkL mkStr x.locs ((mkL mkSlt x.outs ((mkL mkSlt x.ins (q + 1)).2)).2)).1.map eStr), r3), (.im 3 shNum, .im ((mkL mkNum x.mems ((mkL mkStr x.locs ((mkL mkSlt x.outs ((mkL mkSlt x.ins (q + 1)).2)).2)).2)).1.map eNum), r4), (.im 3 shNum, .im ((mkL mkNum x.insts ((mkL mkNum x.mems ((mkL mkStr x.locs ((mkL mkSlt x.outs ((mkL mkSlt x.ins (q + 1)).2)).2)).2)).2)).1.map eNum), r5), (.im 84 shSm, .im ((mkL mkSm x.body ((mkL mkNum x.insts ((mkL mkNum x.mems ((mkL mkStr x.locs ((mkL mkSlt x.outs ((mkL mkSlt x.ins (q + 1)).2)).2)).2)).2)).2)).1.map eSm), r6)] from List.reverse_perm (α := Sh × D × Value) [(.im 79 shSlt, .im ((mkL mkSlt x.ins (q + 1)).1.map eSlt), r1), (.im 79 shSlt, .im ((mkL mkSlt x.outs ((mkL mkSlt x.ins (q + 1)).2)).1.map eSlt), r2), (.im 9 shStr, .im ((mkL mkStr x.locs ((mkL mkSlt x.outs ((mkL mkSlt x.ins (q + 1)).2)).2)).1.map eStr), r3), (.im 3 shNum, .im ((mkL mkNum x.mems ((mkL mkStr x.locs ((mkL mkSlt x.outs ((mkL mkSlt x.ins (q + 1)).2)).2)).2)).1.map eNum), r4), (.im 3 shNum, .im ((mkL mkNum x.insts ((mkL mkNum x.mems ((mkL mkStr x.locs ((mkL mkSlt x.outs ((mkL mkSlt x.ins (q + 1)).2)).2)).2)).2)).1.map eNum), r5), (.im 84 shSm, .im ((mkL mkSm x.body ((mkL mkNum x.insts ((mkL mkNum x.mems ((mkL mkStr x.locs ((mkL mkSlt x.outs ((mkL mkSlt x.ins (q + 1)).2)).2)).2)).2)).2)).1.map eSm), r6)])) ?_
      rw [List.append_assoc]
      show List.Perm _ (_ ++ ((([(.im 79 shSlt, .im ((mkL mkSlt x.ins (q + 1)).1.map eSlt), r1), (.im 79 shSlt, .im ((mkL mkSlt x.outs ((mkL mkSlt x.ins (q + 1)).2)).1.map eSlt), r2), (.im 9 shStr, .im ((mkL mkStr x.locs ((mkL mkSlt x.outs ((mkL mkSlt x.ins (q + 1)).2)).2)).1.map eStr), r3), (.im 3 shNum, .im ((mkL mkNum x.mems ((mkL mkStr x.locs ((mkL mkSlt x.outs ((mkL mkSlt x.ins (q + 1)).2)).2)).2)).1.map eNum), r4), (.im 3 shNum, .im ((mkL mkNum x.insts ((mkL mkNum x.mems ((mkL mkStr x.locs ((mkL mkSlt x.outs ((mkL mkSlt x.ins (q + 1)).2)).2)).2)).2)).1.map eNum), r5), (.im 84 shSm, .im ((mkL mkSm x.body ((mkL mkNum x.insts ((mkL mkNum x.mems ((mkL mkStr x.locs ((mkL mkSlt x.outs ((mkL mkSlt x.ins (q + 1)).2)).2)).2)).2)).2)).1.map eSm), r6)] : List (Sh × D × Value)) ++ _) ++ _))
      rw [List.append_assoc]
      exact List.perm_append_comm_assoc _ _ _
    repeat' first
      | refine Z1 ?_ | refine Z2 ?_ | refine Z3 ?_ | refine Z5 ?_ | refine Zf ?_ | refine ok_reg ?_ | refine x_normal_then ?_ | refine x_normal_block ?_
    exact ⟨(i + 1, d ++ [(mkCls x q).1], (mkCls x q).2, A ++ [.string (markT (q)), r1, r2, r3, r4, r5, r6] :: B, τ7), ⟨hlt, by simp [i2], n3, i4, n5, n6, n7, n8⟩, by (try simp only); omega, low_mk (Nat.le_of_ble_eq_true rfl) ⟨⟨rfl, rfl⟩, ⟨rfl, rfl⟩, ⟨rfl, rfl⟩, trivial⟩ ⟨⟨rfl, trivial⟩, ⟨rfl, blt_lt rfl, exR_low _ _⟩, trivial⟩⟩
theorem markMachine_ok (l : List Cls) (k : Int) (h1 : 1 ≤ k) (h2 : k + 4 * (wL wCls l : Int) ≤ 1099511627776) {u : Value} {τ : FH} {L : List (Sh × D × Value)} (hT : Tr τ ((.im 53 shCls, .im (l.map eCls), u) :: L)) :
    BFun X 10 [.agg [.d (.s u)], vi k] τ fun A τ' => A = .ret (vi (mkL mkCls l k).2) ∧ Tr τ' ((.im 53 shCls, .im ((mkL mkCls l k).1.map eCls), u) :: L) := by
  obtain ⟨ua, un, uc, rfl⟩ := hT.sl
  refine BFun.words rfl ?_
  refine afun_of Tryd.func10 rfl (by decide) Tryd.ntmps10 Tryd.results10 (by simp) ?_
  repeat' first
    | refine Z1 ?_ | refine Z2 ?_ | refine Z5 ?_ | refine Yxx ((markClassS_ok l k h1 h2 hT).at (i := 0) rfl) ?_ | refine Zo ?_
  rintro Z σ2 ⟨τ1, ⟨rfl, t1⟩, rfl⟩
  refine ⟨_, rfl, ?_⟩
  repeat' first
    | refine Z1 ?_ | refine Z2 ?_ | refine Zo ?_ | refine ok_ret ?_ | refine Zt ?_
  exact ⟨τ1, ⟨rfl, t1⟩, rfl, _, rfl, rfl⟩
end Go.Pm
/- The first state of a class: the program's and the specification's, one list of numbers. -/
set_option linter.unusedVariables false
set_option linter.unusedSimpArgs false
namespace Go.Pm
attribute [local irreducible] AR Ok inBlock andThen endQ aoper
set_option maxHeartbeats 2000000
open Go.Proofs
def rstF (cs : List Cls) : Nat → Nat → List Int
  | 0, _ => []
  | f + 1, k => match cs[k]? with
    | none => []
    | some c => c.mems ++ (c.insts.map fun g => rstF cs f g.toNat).flatten
theorem instSum_congr {A B : List Int} : ∀ {l : List Int} {n : Int}, (∀ g ∈ l, A[g.toNat]? = B[g.toNat]?) → instSum A n l = instSum B n l
  | [], _, _ => rfl
  | g :: l, n, h => by simp only [instSum]; rw [h g (by simp), instSum_congr fun x hx => h x (by simp [hx])]
theorem cellsGo_pre : ∀ (r : List Cls) (Z : List Int) (i : Nat), i < Z.length → (cellsGo Z r)[i]? = Z[i]?
  | [], Z, i, _ => rfl
  | c :: r, Z, i, h => by simp only [cellsGo]; rw [cellsGo_pre r _ i (by simp; omega), List.getElem?_append_left h]
theorem cellsGo_at : ∀ (r : List Cls) (Z : List Int) (j : Nat) (c : Cls), r[j]? = some c → (∀ g ∈ c.insts, 0 ≤ g ∧ g < ((Z.length + j : Nat) : Int)) → (cellsGo Z r)[Z.length + j]? = some (min (instSum (cellsGo Z r) c.mems.length c.insts) 20001)
  | [], _, _, _, h, _ => by simp at h
  | d :: r, Z, 0, c, h, hg => by
    have h : d = c := by simpa using h
    subst h
    simp only [cellsGo, Nat.add_zero]
    rw [cellsGo_pre r _ Z.length (by simp), List.getElem?_append_right (Nat.le_refl _), Nat.sub_self]
    simp only [List.getElem?_cons_zero]
    refine congrArg (fun z => some (min z 20001)) (instSum_congr fun g hgm => ?_)
    have := hg g hgm
    rw [cellsGo_pre r _ _ (by simp; omega), List.getElem?_append_left (by omega)]
  | d :: r, Z, j + 1, c, h, hg => by
    simp only [cellsGo]
    have := cellsGo_at r (Z ++ [min (instSum Z d.mems.length d.insts) 20001]) j c (by simpa using h) (fun g hgm => by have := hg g hgm; simp only [List.length_append, List.length_singleton]; omega)
    rw [← this]
    congr 1
    simp only [List.length_append, List.length_singleton]; omega
theorem instSum_len {Z : List Int} {F : Int → List Int} : ∀ (l : List Int) (n : Int), (∀ g ∈ l, ((F g).length : Int) = (Z[g.toNat]?).getD 0) → instSum Z n l = n + ((l.map F).flatten.length : Int)
  | [], n, _ => by simp [instSum]
  | g :: l, n, h => by
    simp only [instSum, List.map_cons, List.flatten_cons, List.length_append]
    rw [instSum_len l _ fun x hx => h x (by simp [hx]), ← h g (by simp)]
    omega
theorem mok_cells {cs : List Cls} (h : mokS cs = true) : ∀ z ∈ cellsS cs, z ≤ 20000 := by
  obtain ⟨m1, _⟩ := m_eq cs
  unfold mokS at h
  split at h
  · cases h
  split at h
  · cases h
  split at h
  · cases h
  rename_i q
  intro z hz
  have hq : (cellsS cs).all (fun z => decide (z ≤ 20000)) = true := by simpa using q
  simpa using List.all_eq_true.1 hq z hz
theorem rcells_at {cs : List Cls} (h : mokS cs = true) {k : Nat} {c : Cls} (hx : cs[k]? = some c) : (cellsS cs)[k]? = some (instSum (cellsS cs) c.mems.length c.insts) ∧ instSum (cellsS cs) c.mems.length c.insts ≤ 20000 := by
  have hg := (mok_good h k c hx).2.1
  have h1 := cellsGo_at cs [] k c hx (by simpa using hg)
  simp only [List.length_nil, Nat.zero_add] at h1
  have h2 := mok_cells h _ (List.mem_of_getElem? h1)
  have e : cellsGo [] cs = cellsS cs := rfl
  rw [e] at h1 h2
  have h3 : instSum (cellsS cs) c.mems.length c.insts ≤ 20000 := by omega
  rw [show min (instSum (cellsS cs) c.mems.length c.insts) 20001 = instSum (cellsS cs) c.mems.length c.insts by omega] at h1
  exact ⟨h1, h3⟩
theorem rst_len {cs : List Cls} (h : mokS cs = true) : ∀ (f k : Nat) (c : Cls), k < f → cs[k]? = some c → (cellsS cs)[k]? = some ((rstF cs f k).length : Int)
  | 0, k, c, hk, _ => by omega
  | f + 1, k, c, hk, hx => by
    obtain ⟨h1, h2⟩ := rcells_at h hx
    have hg := (mok_good h k c hx).2.1
    rw [h1]
    simp only [rstF, hx, List.length_append]
    rw [instSum_len (F := fun g => rstF cs f g.toNat) c.insts c.mems.length fun g hgm => ?_]
    · simp
    · obtain ⟨g0, g1⟩ := hg g hgm
      have hlt : g.toNat < cs.length := by have := (List.getElem?_eq_some_iff.1 hx).1; omega
      have := rst_len h f g.toNat cs[g.toNat] (by omega) (List.getElem?_eq_getElem hlt)
      rw [this]; rfl
theorem rst_le {cs : List Cls} (h : mokS cs = true) {f k : Nat} {c : Cls} (hk : k < f) (hx : cs[k]? = some c) : (rstF cs f k).length ≤ 20000 := by
  have h1 := rst_len h f k c hk hx
  have := mok_cells h _ (List.mem_of_getElem? h1)
  omega
theorem flat_push {α : Type} {F : Int → List α} {l : List Int} {i : Nat} {g : Int} (h : l[i]? = some g) : ((l.take (i + 1)).map F).flatten = ((l.take i).map F).flatten ++ F g := by
  rw [tk_push h, List.map_append, List.flatten_append]; simp
theorem flat_le {F : Int → List Int} {l : List Int} (i : Nat) : ((l.take i).map F).flatten.length ≤ (l.map F).flatten.length := by
  conv => rhs; rw [← List.take_append_drop i l, List.map_append, List.flatten_append, List.length_append]
  omega
theorem sreset_f (cs : List Cls) (hw : wL wCls cs ≤ 1048576) (hm : mokS cs = true) : ∀ (f k : Nat), k < f → k < cs.length → PFun X 15 [.agg [.d (.im (cs.map eCls))], vi (k : Int)] (.d (.im ((rstF cs f k).map eNum)))
  | 0, k, hk, _ => by omega
  | f + 1, k, hk, hl => by
    obtain ⟨c, hx⟩ : ∃ c, cs[k]? = some c := ⟨cs[k], List.getElem?_eq_getElem hl⟩
    have hg := (mok_good hm k c hx).2.1
    have hlen := rst_le hm hk hx
    have hr : rstF cs (f + 1) k = c.mems ++ (c.insts.map fun g => rstF cs f g.toNat).flatten := by simp only [rstF, hx]
    rw [hr] at hlen ⊢
    rw [List.length_append] at hlen
    obtain ⟨F, hF⟩ : ∃ F : Int → List Int, F = fun g => rstF cs f g.toNat := ⟨_, rfl⟩
    rw [← hF] at hlen ⊢
    refine pfun_of Tryd.func15 rfl (by decide) Tryd.ntmps15 Tryd.results15 (by simp) rfl rfl ?_
    repeat' first
      | refine Z1 ?_ | refine Z2 ?_ | refine Z5 ?_ | refine Yw (sz := 1) (rows := []) ?_ | refine Yl (e := eNum) (l := []) c.mems ?_ | refine Zd ?_ | refine Ze ?_ | refine Zo ?_ | refine ok_seq ?_ | refine ok_block ?_
    refine ok_forR (ι := Nat × List Int) (fun x_ => envL [(1, vi (k : Int)), (2, .ref 0 0), (5, .sl 1 3 0 x_.2.length), (21, .d (.im (c.insts.map eNum))), (22, vi c.insts.length), (23, vi x_.1)]) (fun x_ => stL [some (.var [.d (.im (cs.map eCls))]), some (.row 3 3 1 (im2 eNum x_.2)), none, none]) (fun x_ => x_.1 ≤ c.insts.length ∧ x_.2 = c.mems ++ ((c.insts.take x_.1).map F).flatten) (fun x_ => c.insts.length - x_.1) (0, c.mems) (⟨Nat.zero_le _, by simp⟩) Turn.refl (lowR_mk [(3, 2)] rfl rfl rfl ⟨⟨rfl, rfl⟩, ⟨rfl, rfl⟩, ⟨rfl, rfl⟩, ⟨rfl, rfl⟩, ⟨rfl, rfl⟩, ⟨rfl, rfl⟩, trivial⟩ ⟨⟨rfl, rfl⟩, ⟨renO_row rfl (by first | exact im2_ren _ _ _ | rfl), blt_lt rfl, im2_low _ _ _⟩, trivial⟩) ?_
    rintro ⟨i, L⟩ ⟨i1, i2⟩
    simp only at i1 i2
    show Ok _ _ _ _ (envL [(1, vi (k : Int)), (2, .ref 0 0), (5, .sl 1 3 0 L.length), (21, .d (.im (c.insts.map eNum))), (22, vi c.insts.length), (23, vi i)]) (stL [some (.var [.d (.im (cs.map eCls))]), some (.row 3 3 1 (im2 eNum L)), none, none])
    have hll : c.insts.length ≤ 1048576 := by
      have hwc : wCls c ≤ 1048576 := by have := wL_mem (w := wCls) (List.mem_of_getElem? hx); simp only [wL] at hw; omega
      simp only [wCls, wL] at hwc; omega
    rcases hy : c.insts[i]? with _ | g
    · have hle := none_le hy
      have ek : decide ((i : Int) < (c.insts.length : Int)) = false := decide_eq_false (by omega)
      rw [List.take_of_length_le hle] at i2
      repeat' first
        | refine Z1 ?_ | refine Z2 ?_ | refine fz_rows (e := eNum) (l := L) rfl 4 rfl rfl rfl ?_ | refine Zo ?_ | refine ok_seq ?_ | refine Zq ?_ | refine ok_exit ?_ | refine ok_ret ?_ | refine x_normal_then ?_ | refine x_exit_here ?_
        | refine Zv ?_ | refine Zt ?_
      rw [← i2]
    · obtain ⟨hd, hlt⟩ := drop_some hy
      have ek : decide ((i : Int) < (c.insts.length : Int)) = true := decide_eq_true (by omega)
      obtain ⟨g0, g1⟩ := hg g (List.mem_of_getElem? hy)
      have ih := sreset_f cs hw hm f g.toNat (by omega) (by omega)
      rw [show ((g.toNat : Nat) : Int) = g by omega] at ih
      have e1 : F g = rstF cs f g.toNat := by rw [hF]
      rw [← e1] at ih
      have e2 := flat_push (F := F) hy
      have e3 := flat_le (F := F) (l := c.insts) (i + 1)
      rw [e2, List.length_append] at e3
      have e4 : L.length = c.mems.length + ((c.insts.take i).map F).flatten.length := by rw [i2, List.length_append]
      repeat' first
        | refine Z1 ?_ | refine Z2 ?_ | refine Z3 ?_ | refine Z5 ?_ | refine Zc (ih) ?_ | refine Yl (e := eNum) (l := L) (F g) ?_ | refine Ze ?_ | refine Zf ?_ | refine Zo ?_ | refine ok_seq ?_ | refine ok_reg ?_ | refine Zp ?_
        | refine ok_block ?_ | refine ok_skip ?_ | refine x_normal_then ?_ | refine x_normal_block ?_
      exact ⟨(i + 1, L ++ F g), ⟨hlt, by rw [e2, i2, List.append_assoc]⟩, by (try simp only); omega, lowR_mk [(3, 4)] rfl rfl rfl ⟨⟨rfl, rfl⟩, ⟨rfl, rfl⟩, ⟨rfl, rfl⟩, ⟨rfl, rfl⟩, ⟨rfl, rfl⟩, ⟨rfl, rfl⟩, trivial⟩ ⟨⟨rfl, rfl⟩, ⟨renO_row rfl (by first | exact im2_ren _ _ _ | rfl), blt_lt rfl, im2_low _ _ _⟩, trivial⟩⟩
end Go.Pm
/- What holds marks is found marked (printed by gen_held.py). -/
set_option linter.unusedVariables false
set_option linter.unusedSimpArgs false
namespace Go.Pm
attribute [local irreducible] AR Ok inBlock andThen endQ aoper
set_option maxHeartbeats 2000000
open Go.Proofs
theorem drop_head {α : Type} {l : List α} {i : Nat} {y : α} {r : List α} (h : l.drop i = y :: r) : l[i]? = some y ∧ l.drop (i + 1) = r := by
  have h1 : (l.drop i)[0]? = some y := by rw [h]; rfl
  rw [List.getElem?_drop] at h1
  refine ⟨by simpa using h1, ?_⟩
  have : l.drop (i + 1) = (l.drop i).drop 1 := by rw [List.drop_drop]
  rw [this, h]; rfl
theorem heldIntS_ok (l : List (Int)) (k : Int) (h1 : 1 ≤ k) (h2 : k + 4 * (wL (wNum0) l : Int) ≤ 1099511627776) : PFun X 12 [.d (.im ((mkL mkNum l k).1.map eNum)), vi k] (vi (mkL mkNum l k).2) := by
  obtain ⟨m, hm⟩ : ∃ m, m = (mkL mkNum l k).1 := ⟨_, rfl⟩
  have hml : m.length = l.length := by rw [hm, mkL_len]
  rw [← hm]
  refine pfun_of Tryd.func12 rfl (by decide) Tryd.ntmps12 Tryd.results12 (by simp) rfl rfl ?_
  repeat' first
    | refine Z1 ?_ | refine Z2 ?_ | refine Z3 ?_ | refine Z4 ?_ | refine Z5 ?_ | refine Z6 ?_ | refine Z7 ?_ | refine Z8 ?_ | refine Z9 ?_ | refine Za (fun hc => ?_) (fun hc => ?_) | refine Zb (fun hc => ?_) (fun hc => ?_) | refine Zd ?_
    | refine Ze ?_ | refine Zf ?_ | refine Zg ?_ | refine Zh ?_ | refine Zi ?_ | refine Zj ?_ | refine Zk ?_ | refine Zl ?_ | refine Zm ?_ | refine Zn (fun hc => ?_) (fun hc => ?_) | refine Zo ?_ | refine ok_seq ?_ | refine ok_reg ?_
    | refine Zp ?_ | refine Zq ?_ | refine Zr (fun hc => ?_) (fun hc => ?_) | refine ok_block ?_ | refine ok_exit ?_ | refine ok_skip ?_ | refine ok_ret ?_ | refine x_normal_then ?_ | refine x_exit_here ?_ | refine Zs ?_ | refine Zv ?_
    | refine x_ret_then ?_ | refine x_ret_block ?_ | refine x_normal_block ?_ | refine Zt ?_ | refine Zu ?_
  refine ok_for (ι := Nat × Int) (fun x_ => envL [(0, .d (.im (m.map eNum))), (1, vi x_.2), (5, vi x_.1)]) (fun x_ => stL []) (fun x_ => x_.1 ≤ l.length ∧ 1 ≤ x_.2 ∧ (mkL mkNum (l.drop x_.1) x_.2).2 = (mkL mkNum l k).2 ∧ m.drop x_.1 = (mkL mkNum (l.drop x_.1) x_.2).1 ∧ x_.2 + 4 * (wL (wNum0) (l.drop x_.1) : Int) ≤ 1099511627776) (fun x_ => l.length - x_.1) (0, k) (⟨Nat.zero_le _, h1, rfl, hm, h2⟩) (weak_mk rfl ⟨.refl _, .refl _, .refl _, trivial⟩ trivial) (fun _ => Nat.le_refl 0) ?_
  rintro ⟨i, q⟩ ⟨i1, i2, i3, i4, i5⟩
  simp only at i1 i2 i3 i4 i5
  have hll : l.length ≤ wL (wNum0) l := Nat.le_add_right _ _
  show Ok _ _ _ _ (envL [(0, .d (.im (m.map eNum))), (1, vi q), (5, vi i)]) (stL [])
  rcases hx : l[i]? with _ | x
  · have hle := none_le hx
    have ek : decide ((i : Int) < (m.length : Int)) = false := decide_eq_false (by omega)
    rw [drop_none hx] at i3
    simp only [mkL] at i3
    repeat' first
      | refine Z1 ?_ | refine Z2 ?_ | refine Z3 ?_ | refine Z4 ?_ | refine Z5 ?_ | refine Z6 ?_ | refine Z7 ?_ | refine Z8 ?_ | refine Z9 ?_ | refine Za (fun hc => ?_) (fun hc => ?_) | refine Zb (fun hc => ?_) (fun hc => ?_) | refine Zd ?_
      | refine Ze ?_ | refine Zf ?_ | refine Zg ?_ | refine Zh ?_ | refine Zi ?_ | refine Zj ?_ | refine Zk ?_ | refine Zl ?_ | refine Zm ?_ | refine Zn (fun hc => ?_) (fun hc => ?_) | refine Zo ?_ | refine ok_seq ?_ | refine ok_reg ?_
      | refine Zp ?_ | refine Zq ?_ | refine Zr (fun hc => ?_) (fun hc => ?_) | refine ok_block ?_ | refine ok_exit ?_ | refine ok_skip ?_ | refine ok_ret ?_ | refine x_normal_then ?_ | refine x_exit_here ?_ | refine Zs ?_ | refine Zv ?_
      | refine x_ret_then ?_ | refine x_ret_block ?_ | refine x_normal_block ?_ | refine Zt ?_ | refine Zu ?_
    exact congrArg (fun v => AEnd.ret (vi v)) i3
  · obtain ⟨hd, hlt⟩ := drop_some hx
    have ek : decide ((i : Int) < (m.length : Int)) = true := decide_eq_true (by omega)
    rw [hd] at i3 i4 i5
    rw [wL_cons'] at i5
    simp only [mkL] at i3 i4
    obtain ⟨hy, n4⟩ := drop_head i4
    have hcx := cntN x q
    have n3 : 1 ≤ (mkNum x q).2 := by omega
    have n5 : (mkNum x q).2 + 4 * (wL (wNum0) (l.drop (i + 1)) : Int) ≤ 1099511627776 := by omega
    obtain ⟨y, hey⟩ : ∃ y, y = (mkNum x q).1 := ⟨_, rfl⟩
    rw [← hey] at hy
    have f0 : y = q := by rw [hey]; rfl
    have d0 : decide (y ≠ q) = false := decide_eq_false (fun h => h f0)
    repeat' first
      | refine Z1 ?_ | refine Z2 ?_ | refine Z3 ?_ | refine Z4 ?_ | refine Z5 ?_ | refine Z6 ?_ | refine Z7 ?_ | refine Z8 ?_ | refine Z9 ?_ | refine Za (fun hc => ?_) (fun hc => ?_) | refine Zb (fun hc => ?_) (fun hc => ?_) | refine Zd ?_
      | refine Ze ?_ | refine Zf ?_ | refine Zg ?_ | refine Zh ?_ | refine Zi ?_ | refine Zj ?_ | refine Zk ?_ | refine Zl ?_ | refine Zm ?_ | refine Zn (fun hc => ?_) (fun hc => ?_) | refine Zo ?_ | refine ok_seq ?_ | refine ok_reg ?_
      | refine Zp ?_ | refine Zq ?_ | refine Zr (fun hc => ?_) (fun hc => ?_) | refine ok_block ?_ | refine ok_exit ?_ | refine ok_skip ?_ | refine ok_ret ?_ | refine x_normal_then ?_ | refine x_exit_here ?_ | refine Zs ?_ | refine Zv ?_
      | refine x_ret_then ?_ | refine x_ret_block ?_ | refine x_normal_block ?_ | refine Zt ?_ | refine Zu ?_
    exact ⟨(i + 1, (mkNum x q).2), ⟨hlt, n3, i3, n4, n5⟩, by (try simp only); omega, low_mk (Nat.zero_le _) ⟨⟨rfl, rfl⟩, ⟨rfl, rfl⟩, ⟨rfl, rfl⟩, trivial⟩ trivial⟩
end Go.Pm
/- The program's Reset and the specification's; the law. -/
set_option linter.unusedVariables false
set_option linter.unusedSimpArgs false
namespace Go.Pm
attribute [local irreducible] AR Ok inBlock andThen endQ aoper
set_option maxHeartbeats 2000000
open Go.Proofs
theorem num_ex (x : Int) : (eNum x).map AV.d = (vNum x).map ex1 := rfl
theorem reset_f (cs : List Cls) (hw : wL wCls cs ≤ 1048576) (hm : mokS cs = true) : ∀ (f k : Nat), k < f → k < cs.length → ∀ out : List Int, out.length + (rstF cs f k).length ≤ 1048576 →
    RowFun X 18 [.agg [.d (.im (cs.map eCls))], vi (k : Int)] [] 3 1 (out.map vNum) ((out ++ rstF cs f k).map vNum)
  | 0, k, hk, _ => by omega
  | f + 1, k, hk, hl => by
    intro out hout
    obtain ⟨c, hx⟩ : ∃ c, cs[k]? = some c := ⟨cs[k], List.getElem?_eq_getElem hl⟩
    have hg := (mok_good hm k c hx).2.1
    have hr : rstF cs (f + 1) k = c.mems ++ (c.insts.map fun g => rstF cs f g.toNat).flatten := by simp only [rstF, hx]
    rw [hr] at hout ⊢
    rw [List.length_append] at hout
    obtain ⟨F, hF⟩ : ∃ F : Int → List Int, F = fun g => rstF cs f g.toNat := ⟨_, rfl⟩
    rw [← hF] at hout ⊢
    refine ⟨rfl, rfl, ?_⟩
    rw [← im2_exR num_ex, ← im2_exR num_ex, List.length_map, List.length_map]
    refine afun_of Tryd.func18 rfl (by decide) Tryd.ntmps18 Tryd.results18 (by simp) ?_
    repeat' first
      | refine Z1 ?_ | refine Z2 ?_ | refine Z5 ?_ | refine Yl (e := eNum) (l := out) c.mems ?_ | refine Zd ?_ | refine Ze ?_ | refine Zo ?_ | refine ok_seq ?_ | refine ok_block ?_
    refine ok_forR (ι := Nat × List Int) (fun x_ => envL [(1, vi (k : Int)), (3, .ref 2 0), (2, .sl 0 4 0 x_.2.length), (22, .d (.im (c.insts.map eNum))), (23, vi c.insts.length), (24, vi x_.1)]) (fun x_ => stL [some (.row 4 3 1 (im2 eNum x_.2)), none, some (.var [.d (.im (cs.map eCls))]), none, none]) (fun x_ => x_.1 ≤ c.insts.length ∧ x_.2 = out ++ (c.mems ++ ((c.insts.take x_.1).map F).flatten)) (fun x_ => c.insts.length - x_.1) (0, out ++ c.mems) (⟨Nat.zero_le _, by simp⟩) Turn.refl (lowR_mk [(4, 3)] rfl rfl rfl ⟨⟨rfl, rfl⟩, ⟨rfl, rfl⟩, ⟨rfl, rfl⟩, ⟨rfl, rfl⟩, ⟨rfl, rfl⟩, ⟨rfl, rfl⟩, trivial⟩ ⟨⟨renO_row rfl (by first | exact im2_ren _ _ _ | rfl), blt_lt rfl, im2_low _ _ _⟩, ⟨rfl, rfl⟩, trivial⟩) ?_
    rintro ⟨i, L⟩ ⟨i1, i2⟩
    simp only at i1 i2
    show Ok _ _ _ _ (envL [(1, vi (k : Int)), (3, .ref 2 0), (2, .sl 0 4 0 L.length), (22, .d (.im (c.insts.map eNum))), (23, vi c.insts.length), (24, vi i)]) (stL [some (.row 4 3 1 (im2 eNum L)), none, some (.var [.d (.im (cs.map eCls))]), none, none])
    have hll : c.insts.length ≤ 1048576 := by
      have hwc : wCls c ≤ 1048576 := by have := wL_mem (w := wCls) (List.mem_of_getElem? hx); simp only [wL] at hw; omega
      simp only [wCls, wL] at hwc; omega
    rcases hy : c.insts[i]? with _ | g
    · have hle := none_le hy
      have ek : decide ((i : Int) < (c.insts.length : Int)) = false := decide_eq_false (by omega)
      rw [List.take_of_length_le hle] at i2
      repeat' first
        | refine Z1 ?_ | refine Z2 ?_ | refine Zo ?_ | refine ok_seq ?_ | refine Zq ?_ | refine ok_exit ?_ | refine ok_ret ?_ | refine x_normal_then ?_ | refine x_exit_here ?_ | refine Zv ?_ | refine Zt ?_
      exact ⟨0, 4, by rw [← i2], by rw [← i2]; rfl⟩
    · obtain ⟨hd, hlt⟩ := drop_some hy
      have ek : decide ((i : Int) < (c.insts.length : Int)) = true := decide_eq_true (by omega)
      obtain ⟨g0, g1⟩ := hg g (List.mem_of_getElem? hy)
      have e2 := flat_push (F := F) hy
      have e3 := flat_le (F := F) (l := c.insts) (i + 1)
      rw [e2, List.length_append] at e3
      have e4 : L.length = out.length + (c.mems.length + ((c.insts.take i).map F).flatten.length) := by rw [i2, List.length_append, List.length_append]
      have e1 : F g = rstF cs f g.toNat := by rw [hF]
      have ih := reset_f cs hw hm f g.toNat (by omega) (by omega) L (by rw [← e1]; omega)
      rw [show ((g.toNat : Nat) : Int) = g by omega, ← e1] at ih
      repeat' first
        | refine Z1 ?_ | refine Z2 ?_ | refine Z3 ?_ | refine Z5 ?_ | refine Ym (ih.im num_ex (r := 0) (hd := 4) rfl) ?_ | refine Ze ?_ | refine Zf ?_ | refine Zo ?_ | refine ok_seq ?_ | refine ok_reg ?_ | refine Zp ?_ | refine ok_block ?_
        | refine ok_skip ?_ | refine x_normal_then ?_ | refine x_normal_block ?_
      exact ⟨(i + 1, L ++ F g), ⟨hlt, by rw [e2, i2]; simp only [List.append_assoc]⟩, by (try simp only); omega, lowR_mk [(4, 5)] rfl rfl rfl ⟨⟨rfl, rfl⟩, ⟨rfl, rfl⟩, ⟨rfl, rfl⟩, ⟨rfl, rfl⟩, ⟨rfl, rfl⟩, ⟨rfl, rfl⟩, trivial⟩ ⟨⟨renO_row rfl (by first | exact im2_ren _ _ _ | rfl), blt_lt rfl, im2_low _ _ _⟩, ⟨rfl, rfl⟩, trivial⟩⟩
def rsetL (cs : List Cls) (n : Int) : List Int := if hasS cs n = true then rstF cs (n.toNat + 1) n.toNat else []
theorem sreset_ok (cs : List Cls) (n : Int) (hw : wL wCls cs ≤ 1048576) : PFun X 5 [.agg [.d (.im (cs.map eCls))], vi n] (.d (.im ((rsetL cs n).map eNum))) := by
  have hhs := shas_ok cs n hw
  unfold rsetL
  refine pfun_of Tryd.func5 rfl (by decide) Tryd.ntmps5 Tryd.results5 (by simp) rfl rfl ?_
  cases h1 : hasS cs n with
  | false =>
    have n1 : (!hasS cs n) = true := by rw [h1]; rfl
    repeat' first
      | refine Z1 ?_ | refine Z2 ?_ | refine Z4 ?_ | refine Z5 ?_ | refine Zc (hhs) ?_ | refine Zo ?_ | refine ok_seq ?_ | refine Zp ?_ | refine ok_ret ?_ | refine x_ret_then ?_ | refine Zt ?_
    rfl
  | true =>
    have n1 : (!hasS cs n) = false := by rw [h1]; rfl
    obtain ⟨hm, k, rfl, hk⟩ := has_split h1
    repeat' first
      | refine Z1 ?_ | refine Z2 ?_ | refine Z5 ?_ | refine Zc (hhs) ?_ | refine Zc (sreset_f cs hw hm (k + 1) k (by omega) hk) ?_ | refine Zo ?_ | refine ok_seq ?_ | refine Zq ?_ | refine ok_skip ?_ | refine ok_ret ?_
      | refine x_normal_then ?_ | refine Zt ?_
    rfl
theorem ireset_ok (cs : List Cls) (n : Int) (hw : wL wCls cs ≤ 1048576) : RFun X 7 [.agg [.d (.im (cs.map eCls))], vi n] 3 1 ((rsetL cs n).map vNum) := by
  have hm := mok_ok cs hw
  refine ⟨rfl, by decide, ?_⟩
  refine afun_of Tryd.func7 rfl (by decide) Tryd.ntmps7 Tryd.results7 (by simp) ?_
  cases h0 : mokS cs with
  | false =>
    have n1 : (!mokS cs) = true := by rw [h0]; rfl
    have e0 : rsetL cs n = [] := by unfold rsetL hasS; rw [h0]; rfl
    repeat' first
      | refine Z1 ?_ | refine Z2 ?_ | refine Z5 ?_ | refine Z9 ?_ | refine Zc (hm) ?_ | refine Zl ?_ | refine Zo ?_ | refine ok_seq ?_ | refine Zp ?_ | refine ok_ret ?_ | refine x_ret_then ?_ | refine Zt ?_
    exact .inr ⟨rfl, by rw [e0]; rfl⟩
  | true =>
    have n1 : (!mokS cs) = false := by rw [h0]; rfl
    by_cases h1 : n < 0
    · have n2 : decide (n < 0) = true := decide_eq_true h1
      have e0 : rsetL cs n = [] := by unfold rsetL; rw [if_neg (by rw [has_f (.inl h1)]; simp)]
      repeat' first
        | refine Z1 ?_ | refine Z2 ?_ | refine Z5 ?_ | refine Z7 ?_ | refine Z9 ?_ | refine Zc (hm) ?_ | refine Zh ?_ | refine Zi ?_ | refine Zl ?_ | refine Zm ?_ | refine Zo ?_ | refine ok_seq ?_ | refine Zp ?_ | refine ok_ret ?_
        | refine x_ret_then ?_ | refine Zt ?_
      exact .inr ⟨rfl, by rw [e0]; rfl⟩
    · have n2 : decide (n < 0) = false := decide_eq_false h1
      by_cases h2 : (cs.length : Int) ≤ n
      · have n3 : decide ((cs.length : Int) ≤ n) = true := decide_eq_true h2
        have e0 : rsetL cs n = [] := by unfold rsetL; rw [if_neg (by rw [has_f (.inr h2)]; simp)]
        repeat' first
          | refine Z1 ?_ | refine Z2 ?_ | refine Z5 ?_ | refine Z7 ?_ | refine Zc (hm) ?_ | refine Zd ?_ | refine Zh ?_ | refine Zi ?_ | refine Zm ?_ | refine Zo ?_ | refine ok_seq ?_ | refine Zp ?_ | refine ok_ret ?_ | refine x_ret_then ?_
          | refine Zt ?_
        exact .inr ⟨rfl, by rw [e0]; rfl⟩
      · have n3 : decide ((cs.length : Int) ≤ n) = false := decide_eq_false h2
        obtain ⟨k, rfl⟩ : ∃ k : Nat, n = (k : Int) := ⟨n.toNat, by omega⟩
        have hk : k < cs.length := by omega
        have e0 : rsetL cs (k : Int) = rstF cs (k + 1) k := by unfold rsetL; rw [if_pos (has_t h0 (by omega) (by omega))]; rfl
        obtain ⟨c, hx⟩ : ∃ c, cs[k]? = some c := ⟨cs[k], List.getElem?_eq_getElem hk⟩
        have hlen := rst_le h0 (f := k + 1) (by omega) hx
        have hf := (reset_f cs hw h0 (k + 1) k (by omega) hk [] (by simp; omega)).nil (by decide)
        rw [e0]
        repeat' first
          | refine Z1 ?_ | refine Z2 ?_ | refine Z5 ?_ | refine Z7 ?_ | refine Zc (hm) ?_
          | refine Ym (hf.lendB (args := [.agg [.d (.im (cs.map eCls))], vi (k : Int), .d (.s (.slice none 0 0))]) ⟨ln_agg1 (ln_d _ _), ln_d _ _, ln_d _ _, trivial⟩) ?_ | refine Zd ?_ | refine Zh ?_ | refine Zi ?_ | refine Zm ?_ | refine Zo ?_
          | refine ok_seq ?_ | refine Zq ?_ | refine ok_skip ?_ | refine ok_ret ?_ | refine x_normal_then ?_ | refine Zt ?_
        exact .inl ⟨1, 1, rfl, rfl⟩
end Go.Pm
/- The law FnExactReset. -/
set_option linter.unusedVariables false
set_option linter.unusedSimpArgs false
namespace Go.Pm
attribute [local irreducible] AR Ok inBlock andThen endQ aoper
set_option maxHeartbeats 4000000
open Go.Proofs
theorem rset_le (cs : List Cls) (n : Int) : (rsetL cs n).length ≤ 20000 := by
  unfold rsetL
  split
  · rename_i h
    obtain ⟨hm, k, rfl, hk⟩ := has_split h
    exact rst_le hm (f := k + 1) (k := k) (by omega) (List.getElem?_eq_getElem hk)
  · exact Nat.zero_le _
theorem wnum (l : List Int) : wL wNum0 l = l.length := by unfold wL; rw [wNum0_sum]; rfl
abbrev cI (l : List Int) (u : Value) : Sh × D × Value := (.im 3 shNum, .im (l.map eNum), u)
abbrev cM (l : List Cls) (u : Value) : Sh × D × Value := (.im 53 shCls, .im (l.map eCls), u)
theorem law_reset (cs : List Cls) (n : Int) (hd : dL dCls cs) : PFun X 3 [.agg [.d (.im (cs.map eCls))], vi n] (vb true) := by
  have ht : (!true) = false := rfl
  refine pfun_of Tryd.func3 rfl (by decide) Tryd.ntmps3 Tryd.results3 (by simp) rfl rfl ?_
  by_cases hn : subI 1048576 (wL wCls cs) < 0
  · have e1 : decide (subI 1048576 (wL wCls cs) < 0) = true := decide_eq_true hn
    repeat' first
      | refine Z1 ?_ | refine Z2 ?_ | refine Z5 ?_ | refine Zc (szMachine_ok cs 1048576 (by omega) (by omega) hd) ?_ | refine Zo ?_ | refine ok_seq ?_ | refine Zp ?_ | refine ok_ret ?_ | refine x_ret_then ?_ | refine Zt ?_
    rfl
  have e1 : decide (subI 1048576 (wL wCls cs) < 0) = false := decide_eq_false hn
  obtain ⟨h1, h2⟩ := subI_pos hn (by omega)
  have hw : wL wCls cs ≤ 1048576 := by omega
  have hle := rset_le cs n
  have hi := ireset_ok cs n hw
  have hs := sreset_ok cs n hw
  generalize rsetL cs n = R at hle hi hs
  have hwR : wL wNum0 R ≤ 1048576 := by rw [wnum]; omega
  have cM1 := cntL cntCl cs 1
  have cN1 := cntL cntN R 1
  have hwR' := wnum R
  have d1 : decide ((mkL mkCls cs 1).2 < 0) = false := decide_eq_false (by omega)
  have d2 : decide ((mkL mkNum R 1).2 < 0) = false := decide_eq_false (by omega)
  have d3 : decide ((mkL mkNum R 1).2 ≠ (mkL mkNum R 1).2) = false := decide_eq_false (fun h => h rfl)
  repeat' first
    | refine Z1 ?_ | refine Z2 ?_ | refine Z5 ?_ | refine Zc (szMachine_ok cs 1048576 (by omega) (by omega) hd) ?_ | refine Zo ?_ | refine ok_seq ?_ | refine Zq ?_ | refine ok_skip ?_ | refine x_normal_then ?_
  refine Zc (toMachine_ok cs hw) ?_
  repeat' first
    | refine Z1 ?_ | refine Z2 ?_ | refine Z5 ?_ | refine Zc (hs) ?_ | refine Zo ?_
  refine Yxx ((toMachine_own cs hw (τ := FH.non) Tr.nil).new _) ?_
  rintro A σ2 ⟨τ1, ⟨u, rfl, t1⟩, rfl⟩
  obtain ⟨ua, un, uc, rfl⟩ := t1.sl
  refine ⟨_, rfl, ?_⟩
  repeat' first
    | refine Z1 ?_ | refine Z2 ?_ | refine Z5 ?_
    | refine Yxx (hi.box (args := [.agg [.d (.s (.slice ua un uc))], vi n]) (ss := shNum) (rows := R.map eNum) (i := 1) (τ := τ1) ⟨ln_agg1 (.box (i := 1) rfl t1 (List.mem_cons_self ..)), ln_d _ _, trivial⟩ rfl t1 (agrs_words vNum_agr R) (subss_nil shNum_words _ _)) ?_
    | refine Zo ?_
  rintro A σ2 ⟨v, τ2, rfl, rfl, t2⟩
  obtain ⟨va, vn, vc, rfl⟩ := t2.sl
  refine ⟨_, rfl, ?_⟩
  have eqI {σ : St} {τ : FH} {L : List (Sh × D × Value)} (h : σ.obj 1 = some (.box τ)) (t : Tr τ L) {x : Value} (m : cI R x ∈ L) := (eqIntS_ok R hwR).lendB (σ := σ) (args := [.d (.s x), .d (.im (R.map eNum))]) ⟨.box h t m, ln_d _ _, trivial⟩
  have eqM {σ : St} {τ : FH} {L : List (Sh × D × Value)} (h : σ.obj 1 = some (.box τ)) (t : Tr τ L) {x : Value} (m : cM cs x ∈ L) := (eqMachine_ok cs hw).lendB (σ := σ) (args := [.agg [.d (.s x)], .agg [.d (.im (cs.map eCls))]]) ⟨ln_agg1 (.box h t m), ln_agg1 (ln_d _ _), trivial⟩
  have p2 : Tr τ2 (cM cs (.slice ua un uc) :: cI R (.slice va vn vc) :: []) := t2.perm (List.Perm.swap _ _ _)
  repeat' first
    | refine Z1 ?_ | refine Z2 ?_ | refine Z5 ?_ | refine Ym (eqI rfl p2 (x := .slice va vn vc) (by simp)) ?_ | refine Yxx ((markMachine_ok cs 1 (by decide) (by omega) p2).at (i := 1) rfl) ?_ | refine Zw ?_ | refine Zx ?_
    | refine Zz (Zc (toMachine_ok cs hw) ⟨rfl, rfl⟩) ?_ | refine Zz (Ym (eqM rfl p2 (x := .slice ua un uc) (by simp)) ⟨rfl, rfl⟩) ?_ | refine Zo ?_ | refine ok_seq ?_ | refine ok_draw X_mixed (by decide +kernel) ?_ | refine Zq ?_
    | refine ok_skip ?_ | refine x_normal_then ?_
  rintro A σ2 ⟨τ3, ⟨rfl, t3⟩, rfl⟩
  refine ⟨_, rfl, ?_⟩
  have p3 : Tr τ3 (cI R (.slice va vn vc) :: cM (mkL mkCls cs 1).1 (.slice ua un uc) :: []) := t3.perm (List.Perm.swap _ _ _)
  repeat' first
    | refine Z1 ?_ | refine Z2 ?_ | refine Z5 ?_ | refine Z7 ?_ | refine Ym (eqI rfl p3 (x := .slice va vn vc) (by simp)) ?_ | refine Yxx ((markIntS_ok R 1 (by decide) (by omega) p3).at (i := 1) rfl) ?_ | refine Zi ?_ | refine Zm ?_
    | refine Zo ?_ | refine ok_seq ?_ | refine Zq ?_ | refine ok_skip ?_ | refine x_normal_then ?_
  rintro A σ2 ⟨τ4, ⟨rfl, t4⟩, rfl⟩
  refine ⟨_, rfl, ?_⟩
  have hold {σ : St} {τ : FH} {L : List (Sh × D × Value)} (h : σ.obj 1 = some (.box τ)) (t : Tr τ L) {x : Value} (m : cI (mkL mkNum R 1).1 x ∈ L) := (heldIntS_ok R 1 (by decide) (by omega)).lendB (σ := σ) (args := [.d (.s x), vi 1]) ⟨.box h t m, ln_d _ _, trivial⟩
  repeat' first
    | refine Z1 ?_ | refine Z2 ?_ | refine Z5 ?_ | refine Zc (toMachine_ok cs hw) ?_ | refine Ym (hold rfl t4 (x := .slice va vn vc) (by simp)) ?_
    | refine Yxx (hi.box (args := [.agg [.d (.im (cs.map eCls))], vi n]) (ss := shNum) (rows := R.map eNum) (i := 1) (τ := τ4) ⟨ln_agg1 (ln_d _ _), ln_d _ _, trivial⟩ rfl t4 (agrs_words vNum_agr R) (subss_nil shNum_words _ _)) ?_
    | refine Zo ?_ | refine ok_seq ?_ | refine Zq ?_ | refine ok_skip ?_ | refine x_normal_then ?_
  rintro A σ2 ⟨x, τ5, rfl, rfl, t5⟩
  obtain ⟨xa, xn, xc, rfl⟩ := t5.sl
  refine ⟨_, rfl, ?_⟩
  repeat' first
    | refine Z1 ?_ | refine Z2 ?_ | refine Z5 ?_ | refine Ym (eqI rfl t5 (x := .slice xa xn xc) (by simp)) ?_ | refine Ym (hold rfl t5 (x := .slice va vn vc) (by simp)) ?_ | refine Zo ?_ | refine ok_seq ?_ | refine Zq ?_ | refine ok_skip ?_
    | refine ok_ret ?_ | refine x_normal_then ?_ | refine Zt ?_
  rfl
end Go.Pm
