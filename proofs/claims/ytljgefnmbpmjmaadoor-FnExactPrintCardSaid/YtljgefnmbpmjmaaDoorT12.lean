/- Declarations as texts: lists of them, in the specification and in the program. -/
import Derived.Test.YtljgefnmbpmjmaaDoorT11
import Derived.Test.YtljgefnmbpmjmaaDoorT10
import Derived.Test.YtljgefnmbpmjmaaDoorT9
import Derived.Test.YtljgefnmbpmjmaaDoorT8
set_option linter.unusedVariables false
set_option linter.unusedSimpArgs false
namespace Go.Pm
attribute [local irreducible] AR Ok inBlock andThen endQ aoper
set_option maxHeartbeats 4000000
open Go.Proofs
theorem sdecls_ok (l : List Vr) (hl : l.length ≤ 1048576) (hc : ∀ v ∈ l, v.clock.length ≤ 1048576 ∧ (declT v).size ≤ 140737488355328) : PFun X 15 [.d (.im (l.map eVr))] (.d (.im ((l.map declT).map eStr))) := by
  refine pfun_of Tryd.func15 rfl (by decide) Tryd.ntmps15 Tryd.results15 (by simp) rfl rfl ?_
  repeat' first
    | refine Z1 ?_ | refine Z2 ?_ | refine Z5 ?_ | refine op_bslice rfl rfl rfl rfl rfl rfl rfl ?_ | refine Zd ?_ | refine Zo ?_ | refine ok_seq ?_ | refine ok_block ?_
  refine ok_forR (ι := Nat × List ByteArray) (fun x_ => envL [(3, .sl 0 1 0 x_.2.length), (7, .d (.im (l.map eVr))), (8, vi l.length), (9, vi x_.1)]) (fun x_ => stL [some (.row 1 9 1 (im2 eStr x_.2)), none]) (fun x_ => x_.1 ≤ l.length ∧ x_.2 = (l.take x_.1).map declT) (fun x_ => l.length - x_.1) (0, []) (⟨Nat.zero_le _, rfl⟩) Turn.refl (lowR_mk [(1, 0)] rfl rfl rfl ⟨⟨rfl, rfl⟩, ⟨rfl, rfl⟩, ⟨rfl, rfl⟩, ⟨rfl, rfl⟩, trivial⟩ ⟨⟨renO_row rfl (by first | exact im2_ren _ _ _ | rfl), blt_lt rfl, im2_low _ _ _⟩, trivial⟩) ?_
  rintro ⟨k, L⟩ ⟨i1, i2⟩
  simp only at i1 i2
  have hL : L.length ≤ l.length := by rw [i2]; simp; omega
  rcases hx : l[k]? with _ | x
  · have hle := none_le hx
    have ek : decide ((k : Int) < (l.length : Int)) = false := decide_eq_false (by omega)
    rw [List.take_of_length_le hle] at i2
    subst i2
    repeat' first
      | refine Z1 ?_ | refine Z2 ?_ | refine fz_rows (e := eStr) (l := l.map declT) rfl 2 rfl rfl rfl ?_ | refine Zo ?_ | refine ok_seq ?_ | refine Zq ?_ | refine ok_exit ?_ | refine ok_ret ?_ | refine x_normal_then ?_ | refine x_exit_here ?_
      | refine Zv ?_ | refine Zt ?_
    rfl
  obtain ⟨hd, hlt⟩ := drop_some hx
  have ek : decide ((k : Int) < (l.length : Int)) = true := decide_eq_true (by omega)
  obtain ⟨v0, v1⟩ := hc x (List.mem_of_getElem? hx)
  repeat' first
    | refine Z1 ?_ | refine Z2 ?_ | refine Z3 ?_ | refine Z4 ?_ | refine Z5 ?_ | refine Zc (sdecl_ok x v0 v1) ?_ | refine Yl (e := eStr) (l := L) [declT x] ?_ | refine Ze ?_ | refine Zf ?_ | refine Zo ?_ | refine ok_seq ?_ | refine ok_reg ?_
    | refine Zp ?_ | refine ok_block ?_ | refine ok_skip ?_ | refine x_normal_then ?_ | refine x_normal_block ?_
  exact ⟨(k + 1, L ++ [declT x]), ⟨hlt, by rw [i2, tk_push hx, List.map_append]; rfl⟩, by (try simp only); omega, lowR_mk [(1, 4)] rfl rfl rfl ⟨⟨rfl, rfl⟩, ⟨rfl, rfl⟩, ⟨rfl, rfl⟩, ⟨rfl, rfl⟩, trivial⟩ ⟨⟨renO_row rfl (by first | exact im2_ren _ _ _ | rfl), blt_lt rfl, im2_low _ _ _⟩, trivial⟩⟩
/-- The program writes declarations as the specification joins them. -/
theorem decls_s (l : List Vr) (t : ByteArray) (hl : l.length ≤ 1048576) (hc : ∀ v ∈ l, v.clock.length ≤ 1048576 ∧ (v.type = 1 ∨ v.type = 2)) (hs : (t ++ joinT (B [59, 32]) 0 (l.map declT)).size ≤ 140737488355328) :
    AFun X 19 [.d (.im (l.map eVr)), .ref 0 0] (stL (bdO 5 2 t ++ [none])) fun E σ' => E = .ret (.tup []) ∧ σ' = stL (bdO 5 3 (t ++ joinT (B [59, 32]) 0 (l.map declT)) ++ [none, none]) := by
  refine afun_of Tryd.func19 rfl (by decide) Tryd.ntmps19 Tryd.results19 (by simp) ?_
  unfold bdO
  obtain ⟨full, hfull⟩ : ∃ full, t ++ joinT (B [59, 32]) 0 (l.map declT) = full := ⟨_, rfl⟩
  rw [hfull] at hs ⊢
  repeat' first
    | refine Z1 ?_ | refine Z2 ?_ | refine Z5 ?_ | refine Zd ?_ | refine Zo ?_ | refine ok_block ?_
  refine ok_forR (ι := Nat × ByteArray) (fun x_ => envL [(1, .ref 0 0), (7, .d (.im (l.map eVr))), (8, vi l.length), (9, vi x_.1)]) (fun x_ => stL [some (.var [.ref 0 0, .sl 1 3 0 x_.2.size]), some (.row 3 5 1 (byteRows x_.2)), none, none]) (fun x_ => x_.1 ≤ l.length ∧ x_.2 ++ joinT (B [59, 32]) x_.1 ((l.drop x_.1).map declT) = full) (fun x_ => l.length - x_.1) (0, t) (⟨Nat.zero_le _, hfull⟩) Turn.refl (lowR_mk [(3, 2)] rfl rfl rfl ⟨⟨rfl, rfl⟩, ⟨rfl, rfl⟩, ⟨rfl, rfl⟩, ⟨rfl, rfl⟩, trivial⟩ ⟨⟨rfl, rfl⟩, ⟨renO_row rfl (by first | exact byteRows_ren _ _ | rfl), blt_lt rfl, byteRows_low _ _⟩, trivial⟩) ?_
  rintro ⟨k, u⟩ ⟨i1, i2⟩
  simp only at i1 i2
  by_cases hkl : k < l.length
  rotate_left
  · have ek : decide ((k : Int) < (l.length : Int)) = false := decide_eq_false (by omega)
    rw [List.drop_eq_nil_of_le (by omega)] at i2
    simp only [List.map_nil, joinT, ba_nil] at i2
    subst i2
    repeat' first
      | refine Z1 ?_ | refine Z2 ?_ | refine nrm0 ?_ | refine Zo ?_ | refine ok_seq ?_ | refine Zq ?_ | refine ok_exit ?_ | refine x_exit_here ?_ | refine Zv ?_
    exact ⟨rfl, rfl⟩
  obtain ⟨x, hx⟩ : ∃ x, l[k]? = some x := ⟨l[k], List.getElem?_eq_getElem hkl⟩
  obtain ⟨hd, hlt⟩ := drop_some hx
  have ek : decide ((k : Int) < (l.length : Int)) = true := decide_eq_true (by omega)
  obtain ⟨v0, vt⟩ := hc x (List.mem_of_getElem? hx)
  rw [hd] at i2
  simp only [List.map_cons, joinT, declT] at i2
  obtain ⟨R, hR⟩ : ∃ R, R = joinT (B [59, 32]) (k + 1) ((l.drop (k + 1)).map declT) := ⟨_, rfl⟩
  rw [← hR] at i2
  obtain ⟨w, hw⟩ : ∃ w : ByteArray, w = if 0 < k then B [59, 32] else B [] := ⟨_, rfl⟩
  rw [← hw] at i2
  have i2 : u ++ (w ++ ((x.name ++ B [58, 32]) ++ (tyD x.type ++ (catT clkT x.clock ++ R)))) = full := by rw [← i2]; simp only [ba_assoc]
  by_cases h0 : 0 < k
  · have e0 : decide (0 < (k : Int)) = true := decide_eq_true (by omega)
    rw [hw, if_pos h0] at i2
    have y0 := sz_of i2 hs
    have i2 := nx_of i2
    have y1 := sz_of i2 hs
    have i2 := nx_of i2
    have y2 := sz_of i2 hs
    have i2 := nx_of i2
    have y3 := y1
    simp only [ByteArray.size_append] at y3
    by_cases ht : x.type = 1
    · have dt : decide (x.type = 1) = true := decide_eq_true ht
      have htx : tyD x.type = B [105, 110, 116] := by unfold tyD; rw [if_neg (by omega)]
      rw [htx] at y2 i2
      repeat' first
        | refine Z1 ?_ | refine Z2 ?_ | refine Z5 ?_ | refine Ym (write_ok (i := 0) (r := 1) (h := 3) (t := u) rfl rfl (B [59, 32]) y0) ?_ | refine Ul (a := x.name) (b := B [58, 32]) (hb := by rw [ByteArray.size_append]; omega) ?_
        | refine Ym (write_ok (i := 0) (r := 1) (h := 5) (t := u ++ B [59, 32]) rfl rfl (x.name ++ B [58, 32]) y1) ?_
        | refine Ym (write_ok (i := 0) (r := 1) (h := 6) (t := u ++ B [59, 32] ++ (x.name ++ B [58, 32])) rfl rfl (B [105, 110, 116]) y2) ?_ | refine Zd ?_ | refine Ze ?_ | refine Zo ?_ | refine ok_seq ?_ | refine ok_reg ?_ | refine Zp ?_
        | refine ok_block ?_ | refine ok_skip ?_ | refine x_normal_then ?_
      refine ok_forR (ι := Nat × ByteArray) (fun x_ => envL [(1, .ref 0 0), (7, .d (.im (l.map eVr))), (8, vi l.length), (9, vi k), (27, .d (.im (x.clock.map eCnd))), (28, vi x.clock.length), (29, vi x_.1)]) (fun x_ => stL [some (.var [.ref 0 0, .sl 1 8 0 x_.2.size]), some (.row 8 5 1 (byteRows x_.2)), none, none, none, none, none, none, none]) (fun x_ => x_.1 ≤ x.clock.length ∧ x_.2 ++ (catT clkT (x.clock.drop x_.1) ++ R) = full) (fun x_ => x.clock.length - x_.1) (0, u ++ B [59, 32] ++ (x.name ++ B [58, 32]) ++ B [105, 110, 116]) (⟨Nat.zero_le _, i2⟩) Turn.refl (lowR_mk [(8, 7)] rfl rfl rfl ⟨⟨rfl, rfl⟩, ⟨rfl, rfl⟩, ⟨rfl, rfl⟩, ⟨rfl, rfl⟩, ⟨rfl, rfl⟩, ⟨rfl, rfl⟩, ⟨rfl, rfl⟩, trivial⟩ ⟨⟨rfl, rfl⟩, ⟨renO_row rfl (by first | exact byteRows_ren _ _ | rfl), blt_lt rfl, byteRows_low _ _⟩, trivial⟩) ?_
      rintro ⟨q, z⟩ ⟨j1, j2⟩
      simp only at j1 j2
      by_cases hql : q < x.clock.length
      · obtain ⟨c, hy⟩ : ∃ c, x.clock[q]? = some c := ⟨x.clock[q], List.getElem?_eq_getElem hql⟩
        obtain ⟨hd2, hlt2⟩ := drop_some hy
        have eq : decide ((q : Int) < (x.clock.length : Int)) = true := decide_eq_true (by omega)
        rw [hd2] at j2
        simp only [catT] at j2
        rw [ba_assoc] at j2
        have z1 := sz_of j2 hs
        have j2 := nx_of j2
        cases ho : c.on with
        | true =>
          have hct : clkT c = B [32, 119, 104, 101, 110, 32] ++ c.name := by unfold clkT; rw [ho, if_pos rfl]
          rw [hct] at z1 j2
          have z2 := z1
          simp only [ByteArray.size_append] at z2
          repeat' first
            | refine Z1 ?_ | refine Z2 ?_ | refine Z3 ?_ | refine Z5 ?_ | refine Ul (a := B [32, 119, 104, 101, 110, 32]) (b := c.name) (hb := by rw [ByteArray.size_append]; omega) ?_
            | refine Ym (write_ok (i := 0) (r := 1) (h := 8) (t := z) rfl rfl (B [32, 119, 104, 101, 110, 32] ++ c.name) z1) ?_ | refine Ze ?_ | refine Zf ?_ | refine Zo ?_ | refine ok_seq ?_ | refine ok_reg ?_ | refine Zp ?_
            | refine ok_block ?_ | refine ok_skip ?_ | refine x_normal_then ?_ | refine x_normal_block ?_
          exact ⟨(q + 1, z ++ (B [32, 119, 104, 101, 110, 32] ++ c.name)), ⟨hlt2, j2⟩, by (try simp only); omega, lowR_mk [(8, 10)] rfl rfl rfl ⟨⟨rfl, rfl⟩, ⟨rfl, rfl⟩, ⟨rfl, rfl⟩, ⟨rfl, rfl⟩, ⟨rfl, rfl⟩, ⟨rfl, rfl⟩, ⟨rfl, rfl⟩, trivial⟩ ⟨⟨rfl, rfl⟩, ⟨renO_row rfl (by first | exact byteRows_ren _ _ | rfl), blt_lt rfl, byteRows_low _ _⟩, trivial⟩⟩
        | false =>
          have hct : clkT c = B [32, 119, 104, 101, 110, 111, 116, 32] ++ c.name := by unfold clkT; rw [ho, if_neg (by decide)]
          rw [hct] at z1 j2
          have z2 := z1
          simp only [ByteArray.size_append] at z2
          repeat' first
            | refine Z1 ?_ | refine Z2 ?_ | refine Z3 ?_ | refine Z5 ?_ | refine Ul (a := B [32, 119, 104, 101, 110, 111, 116, 32]) (b := c.name) (hb := by rw [ByteArray.size_append]; omega) ?_
            | refine Ym (write_ok (i := 0) (r := 1) (h := 8) (t := z) rfl rfl (B [32, 119, 104, 101, 110, 111, 116, 32] ++ c.name) z1) ?_ | refine Ze ?_ | refine Zf ?_ | refine Zo ?_ | refine ok_seq ?_ | refine ok_reg ?_ | refine Zp ?_
            | refine Zq ?_ | refine ok_block ?_ | refine ok_skip ?_ | refine x_normal_then ?_ | refine x_normal_block ?_
          exact ⟨(q + 1, z ++ (B [32, 119, 104, 101, 110, 111, 116, 32] ++ c.name)), ⟨hlt2, j2⟩, by (try simp only); omega, lowR_mk [(8, 10)] rfl rfl rfl ⟨⟨rfl, rfl⟩, ⟨rfl, rfl⟩, ⟨rfl, rfl⟩, ⟨rfl, rfl⟩, ⟨rfl, rfl⟩, ⟨rfl, rfl⟩, ⟨rfl, rfl⟩, trivial⟩ ⟨⟨rfl, rfl⟩, ⟨renO_row rfl (by first | exact byteRows_ren _ _ | rfl), blt_lt rfl, byteRows_low _ _⟩, trivial⟩⟩
      · have eq : decide ((q : Int) < (x.clock.length : Int)) = false := decide_eq_false (by omega)
        rw [List.drop_eq_nil_of_le (by omega)] at j2
        simp only [catT, nil_ba] at j2
        rw [hR] at j2
        repeat' first
          | refine Z1 ?_ | refine Z2 ?_ | refine Z5 ?_ | refine Zf ?_ | refine Zo ?_ | refine ok_seq ?_ | refine ok_reg ?_ | refine Zq ?_ | refine ok_exit ?_ | refine x_normal_then ?_ | refine x_exit_here ?_ | refine Zv ?_
          | refine x_normal_block ?_
        exact ⟨(k + 1, z), ⟨hlt, j2⟩, by (try simp only); omega, lowR_mk [(3, 8)] rfl rfl rfl ⟨⟨rfl, rfl⟩, ⟨rfl, rfl⟩, ⟨rfl, rfl⟩, ⟨rfl, rfl⟩, trivial⟩ ⟨⟨rfl, rfl⟩, ⟨renO_row rfl (by first | exact byteRows_ren _ _ | rfl), blt_lt rfl, byteRows_low _ _⟩, trivial⟩⟩
    · have dt : decide (x.type = 1) = false := decide_eq_false ht
      have ht2 : x.type = 2 := vt.resolve_left ht
      have htx : tyD x.type = B [98, 111, 111, 108] := by unfold tyD; rw [if_pos ht2]
      rw [htx] at y2 i2
      repeat' first
        | refine Z1 ?_ | refine Z2 ?_ | refine Z5 ?_ | refine Ym (write_ok (i := 0) (r := 1) (h := 3) (t := u) rfl rfl (B [59, 32]) y0) ?_ | refine Ul (a := x.name) (b := B [58, 32]) (hb := by rw [ByteArray.size_append]; omega) ?_
        | refine Ym (write_ok (i := 0) (r := 1) (h := 5) (t := u ++ B [59, 32]) rfl rfl (x.name ++ B [58, 32]) y1) ?_
        | refine Ym (write_ok (i := 0) (r := 1) (h := 6) (t := u ++ B [59, 32] ++ (x.name ++ B [58, 32])) rfl rfl (B [98, 111, 111, 108]) y2) ?_ | refine Zd ?_ | refine Ze ?_ | refine Zo ?_ | refine ok_seq ?_ | refine ok_reg ?_ | refine Zp ?_
        | refine Zq ?_ | refine ok_block ?_ | refine ok_skip ?_ | refine x_normal_then ?_
      refine ok_forR (ι := Nat × ByteArray) (fun x_ => envL [(1, .ref 0 0), (7, .d (.im (l.map eVr))), (8, vi l.length), (9, vi k), (27, .d (.im (x.clock.map eCnd))), (28, vi x.clock.length), (29, vi x_.1)]) (fun x_ => stL [some (.var [.ref 0 0, .sl 1 8 0 x_.2.size]), some (.row 8 5 1 (byteRows x_.2)), none, none, none, none, none, none, none]) (fun x_ => x_.1 ≤ x.clock.length ∧ x_.2 ++ (catT clkT (x.clock.drop x_.1) ++ R) = full) (fun x_ => x.clock.length - x_.1) (0, u ++ B [59, 32] ++ (x.name ++ B [58, 32]) ++ B [98, 111, 111, 108]) (⟨Nat.zero_le _, i2⟩) Turn.refl (lowR_mk [(8, 7)] rfl rfl rfl ⟨⟨rfl, rfl⟩, ⟨rfl, rfl⟩, ⟨rfl, rfl⟩, ⟨rfl, rfl⟩, ⟨rfl, rfl⟩, ⟨rfl, rfl⟩, ⟨rfl, rfl⟩, trivial⟩ ⟨⟨rfl, rfl⟩, ⟨renO_row rfl (by first | exact byteRows_ren _ _ | rfl), blt_lt rfl, byteRows_low _ _⟩, trivial⟩) ?_
      rintro ⟨q, z⟩ ⟨j1, j2⟩
      simp only at j1 j2
      by_cases hql : q < x.clock.length
      · obtain ⟨c, hy⟩ : ∃ c, x.clock[q]? = some c := ⟨x.clock[q], List.getElem?_eq_getElem hql⟩
        obtain ⟨hd2, hlt2⟩ := drop_some hy
        have eq : decide ((q : Int) < (x.clock.length : Int)) = true := decide_eq_true (by omega)
        rw [hd2] at j2
        simp only [catT] at j2
        rw [ba_assoc] at j2
        have z1 := sz_of j2 hs
        have j2 := nx_of j2
        cases ho : c.on with
        | true =>
          have hct : clkT c = B [32, 119, 104, 101, 110, 32] ++ c.name := by unfold clkT; rw [ho, if_pos rfl]
          rw [hct] at z1 j2
          have z2 := z1
          simp only [ByteArray.size_append] at z2
          repeat' first
            | refine Z1 ?_ | refine Z2 ?_ | refine Z3 ?_ | refine Z5 ?_ | refine Ul (a := B [32, 119, 104, 101, 110, 32]) (b := c.name) (hb := by rw [ByteArray.size_append]; omega) ?_
            | refine Ym (write_ok (i := 0) (r := 1) (h := 8) (t := z) rfl rfl (B [32, 119, 104, 101, 110, 32] ++ c.name) z1) ?_ | refine Ze ?_ | refine Zf ?_ | refine Zo ?_ | refine ok_seq ?_ | refine ok_reg ?_ | refine Zp ?_
            | refine ok_block ?_ | refine ok_skip ?_ | refine x_normal_then ?_ | refine x_normal_block ?_
          exact ⟨(q + 1, z ++ (B [32, 119, 104, 101, 110, 32] ++ c.name)), ⟨hlt2, j2⟩, by (try simp only); omega, lowR_mk [(8, 10)] rfl rfl rfl ⟨⟨rfl, rfl⟩, ⟨rfl, rfl⟩, ⟨rfl, rfl⟩, ⟨rfl, rfl⟩, ⟨rfl, rfl⟩, ⟨rfl, rfl⟩, ⟨rfl, rfl⟩, trivial⟩ ⟨⟨rfl, rfl⟩, ⟨renO_row rfl (by first | exact byteRows_ren _ _ | rfl), blt_lt rfl, byteRows_low _ _⟩, trivial⟩⟩
        | false =>
          have hct : clkT c = B [32, 119, 104, 101, 110, 111, 116, 32] ++ c.name := by unfold clkT; rw [ho, if_neg (by decide)]
          rw [hct] at z1 j2
          have z2 := z1
          simp only [ByteArray.size_append] at z2
          repeat' first
            | refine Z1 ?_ | refine Z2 ?_ | refine Z3 ?_ | refine Z5 ?_ | refine Ul (a := B [32, 119, 104, 101, 110, 111, 116, 32]) (b := c.name) (hb := by rw [ByteArray.size_append]; omega) ?_
            | refine Ym (write_ok (i := 0) (r := 1) (h := 8) (t := z) rfl rfl (B [32, 119, 104, 101, 110, 111, 116, 32] ++ c.name) z1) ?_ | refine Ze ?_ | refine Zf ?_ | refine Zo ?_ | refine ok_seq ?_ | refine ok_reg ?_ | refine Zp ?_
            | refine Zq ?_ | refine ok_block ?_ | refine ok_skip ?_ | refine x_normal_then ?_ | refine x_normal_block ?_
          exact ⟨(q + 1, z ++ (B [32, 119, 104, 101, 110, 111, 116, 32] ++ c.name)), ⟨hlt2, j2⟩, by (try simp only); omega, lowR_mk [(8, 10)] rfl rfl rfl ⟨⟨rfl, rfl⟩, ⟨rfl, rfl⟩, ⟨rfl, rfl⟩, ⟨rfl, rfl⟩, ⟨rfl, rfl⟩, ⟨rfl, rfl⟩, ⟨rfl, rfl⟩, trivial⟩ ⟨⟨rfl, rfl⟩, ⟨renO_row rfl (by first | exact byteRows_ren _ _ | rfl), blt_lt rfl, byteRows_low _ _⟩, trivial⟩⟩
      · have eq : decide ((q : Int) < (x.clock.length : Int)) = false := decide_eq_false (by omega)
        rw [List.drop_eq_nil_of_le (by omega)] at j2
        simp only [catT, nil_ba] at j2
        rw [hR] at j2
        repeat' first
          | refine Z1 ?_ | refine Z2 ?_ | refine Z5 ?_ | refine Zf ?_ | refine Zo ?_ | refine ok_seq ?_ | refine ok_reg ?_ | refine Zq ?_ | refine ok_exit ?_ | refine x_normal_then ?_ | refine x_exit_here ?_ | refine Zv ?_
          | refine x_normal_block ?_
        exact ⟨(k + 1, z), ⟨hlt, j2⟩, by (try simp only); omega, lowR_mk [(3, 8)] rfl rfl rfl ⟨⟨rfl, rfl⟩, ⟨rfl, rfl⟩, ⟨rfl, rfl⟩, ⟨rfl, rfl⟩, trivial⟩ ⟨⟨rfl, rfl⟩, ⟨renO_row rfl (by first | exact byteRows_ren _ _ | rfl), blt_lt rfl, byteRows_low _ _⟩, trivial⟩⟩
  · have e0 : decide (0 < (k : Int)) = false := decide_eq_false (by omega)
    rw [hw, if_neg h0, nil_ba] at i2
    have y1 := sz_of i2 hs
    have i2 := nx_of i2
    have y2 := sz_of i2 hs
    have i2 := nx_of i2
    have y3 := y1
    simp only [ByteArray.size_append] at y3
    by_cases ht : x.type = 1
    · have dt : decide (x.type = 1) = true := decide_eq_true ht
      have htx : tyD x.type = B [105, 110, 116] := by unfold tyD; rw [if_neg (by omega)]
      rw [htx] at y2 i2
      repeat' first
        | refine Z1 ?_ | refine Z2 ?_ | refine Z5 ?_ | refine Ul (a := x.name) (b := B [58, 32]) (hb := by rw [ByteArray.size_append]; omega) ?_ | refine Ym (write_ok (i := 0) (r := 1) (h := 3) (t := u) rfl rfl (x.name ++ B [58, 32]) y1) ?_
        | refine Ym (write_ok (i := 0) (r := 1) (h := 5) (t := u ++ (x.name ++ B [58, 32])) rfl rfl (B [105, 110, 116]) y2) ?_ | refine Zd ?_ | refine Ze ?_ | refine Zo ?_ | refine ok_seq ?_ | refine ok_reg ?_ | refine Zp ?_ | refine Zq ?_
        | refine ok_block ?_ | refine ok_skip ?_ | refine x_normal_then ?_
      refine ok_forR (ι := Nat × ByteArray) (fun x_ => envL [(1, .ref 0 0), (7, .d (.im (l.map eVr))), (8, vi l.length), (9, vi k), (27, .d (.im (x.clock.map eCnd))), (28, vi x.clock.length), (29, vi x_.1)]) (fun x_ => stL [some (.var [.ref 0 0, .sl 1 7 0 x_.2.size]), some (.row 7 5 1 (byteRows x_.2)), none, none, none, none, none, none]) (fun x_ => x_.1 ≤ x.clock.length ∧ x_.2 ++ (catT clkT (x.clock.drop x_.1) ++ R) = full) (fun x_ => x.clock.length - x_.1) (0, u ++ (x.name ++ B [58, 32]) ++ B [105, 110, 116]) (⟨Nat.zero_le _, i2⟩) Turn.refl (lowR_mk [(7, 6)] rfl rfl rfl ⟨⟨rfl, rfl⟩, ⟨rfl, rfl⟩, ⟨rfl, rfl⟩, ⟨rfl, rfl⟩, ⟨rfl, rfl⟩, ⟨rfl, rfl⟩, ⟨rfl, rfl⟩, trivial⟩ ⟨⟨rfl, rfl⟩, ⟨renO_row rfl (by first | exact byteRows_ren _ _ | rfl), blt_lt rfl, byteRows_low _ _⟩, trivial⟩) ?_
      rintro ⟨q, z⟩ ⟨j1, j2⟩
      simp only at j1 j2
      by_cases hql : q < x.clock.length
      · obtain ⟨c, hy⟩ : ∃ c, x.clock[q]? = some c := ⟨x.clock[q], List.getElem?_eq_getElem hql⟩
        obtain ⟨hd2, hlt2⟩ := drop_some hy
        have eq : decide ((q : Int) < (x.clock.length : Int)) = true := decide_eq_true (by omega)
        rw [hd2] at j2
        simp only [catT] at j2
        rw [ba_assoc] at j2
        have z1 := sz_of j2 hs
        have j2 := nx_of j2
        cases ho : c.on with
        | true =>
          have hct : clkT c = B [32, 119, 104, 101, 110, 32] ++ c.name := by unfold clkT; rw [ho, if_pos rfl]
          rw [hct] at z1 j2
          have z2 := z1
          simp only [ByteArray.size_append] at z2
          repeat' first
            | refine Z1 ?_ | refine Z2 ?_ | refine Z3 ?_ | refine Z5 ?_ | refine Ul (a := B [32, 119, 104, 101, 110, 32]) (b := c.name) (hb := by rw [ByteArray.size_append]; omega) ?_
            | refine Ym (write_ok (i := 0) (r := 1) (h := 7) (t := z) rfl rfl (B [32, 119, 104, 101, 110, 32] ++ c.name) z1) ?_ | refine Ze ?_ | refine Zf ?_ | refine Zo ?_ | refine ok_seq ?_ | refine ok_reg ?_ | refine Zp ?_
            | refine ok_block ?_ | refine ok_skip ?_ | refine x_normal_then ?_ | refine x_normal_block ?_
          exact ⟨(q + 1, z ++ (B [32, 119, 104, 101, 110, 32] ++ c.name)), ⟨hlt2, j2⟩, by (try simp only); omega, lowR_mk [(7, 9)] rfl rfl rfl ⟨⟨rfl, rfl⟩, ⟨rfl, rfl⟩, ⟨rfl, rfl⟩, ⟨rfl, rfl⟩, ⟨rfl, rfl⟩, ⟨rfl, rfl⟩, ⟨rfl, rfl⟩, trivial⟩ ⟨⟨rfl, rfl⟩, ⟨renO_row rfl (by first | exact byteRows_ren _ _ | rfl), blt_lt rfl, byteRows_low _ _⟩, trivial⟩⟩
        | false =>
          have hct : clkT c = B [32, 119, 104, 101, 110, 111, 116, 32] ++ c.name := by unfold clkT; rw [ho, if_neg (by decide)]
          rw [hct] at z1 j2
          have z2 := z1
          simp only [ByteArray.size_append] at z2
          repeat' first
            | refine Z1 ?_ | refine Z2 ?_ | refine Z3 ?_ | refine Z5 ?_ | refine Ul (a := B [32, 119, 104, 101, 110, 111, 116, 32]) (b := c.name) (hb := by rw [ByteArray.size_append]; omega) ?_
            | refine Ym (write_ok (i := 0) (r := 1) (h := 7) (t := z) rfl rfl (B [32, 119, 104, 101, 110, 111, 116, 32] ++ c.name) z1) ?_ | refine Ze ?_ | refine Zf ?_ | refine Zo ?_ | refine ok_seq ?_ | refine ok_reg ?_ | refine Zp ?_
            | refine Zq ?_ | refine ok_block ?_ | refine ok_skip ?_ | refine x_normal_then ?_ | refine x_normal_block ?_
          exact ⟨(q + 1, z ++ (B [32, 119, 104, 101, 110, 111, 116, 32] ++ c.name)), ⟨hlt2, j2⟩, by (try simp only); omega, lowR_mk [(7, 9)] rfl rfl rfl ⟨⟨rfl, rfl⟩, ⟨rfl, rfl⟩, ⟨rfl, rfl⟩, ⟨rfl, rfl⟩, ⟨rfl, rfl⟩, ⟨rfl, rfl⟩, ⟨rfl, rfl⟩, trivial⟩ ⟨⟨rfl, rfl⟩, ⟨renO_row rfl (by first | exact byteRows_ren _ _ | rfl), blt_lt rfl, byteRows_low _ _⟩, trivial⟩⟩
      · have eq : decide ((q : Int) < (x.clock.length : Int)) = false := decide_eq_false (by omega)
        rw [List.drop_eq_nil_of_le (by omega)] at j2
        simp only [catT, nil_ba] at j2
        rw [hR] at j2
        repeat' first
          | refine Z1 ?_ | refine Z2 ?_ | refine Z5 ?_ | refine Zf ?_ | refine Zo ?_ | refine ok_seq ?_ | refine ok_reg ?_ | refine Zq ?_ | refine ok_exit ?_ | refine x_normal_then ?_ | refine x_exit_here ?_ | refine Zv ?_
          | refine x_normal_block ?_
        exact ⟨(k + 1, z), ⟨hlt, j2⟩, by (try simp only); omega, lowR_mk [(3, 7)] rfl rfl rfl ⟨⟨rfl, rfl⟩, ⟨rfl, rfl⟩, ⟨rfl, rfl⟩, ⟨rfl, rfl⟩, trivial⟩ ⟨⟨rfl, rfl⟩, ⟨renO_row rfl (by first | exact byteRows_ren _ _ | rfl), blt_lt rfl, byteRows_low _ _⟩, trivial⟩⟩
    · have dt : decide (x.type = 1) = false := decide_eq_false ht
      have ht2 : x.type = 2 := vt.resolve_left ht
      have htx : tyD x.type = B [98, 111, 111, 108] := by unfold tyD; rw [if_pos ht2]
      rw [htx] at y2 i2
      repeat' first
        | refine Z1 ?_ | refine Z2 ?_ | refine Z5 ?_ | refine Ul (a := x.name) (b := B [58, 32]) (hb := by rw [ByteArray.size_append]; omega) ?_ | refine Ym (write_ok (i := 0) (r := 1) (h := 3) (t := u) rfl rfl (x.name ++ B [58, 32]) y1) ?_
        | refine Ym (write_ok (i := 0) (r := 1) (h := 5) (t := u ++ (x.name ++ B [58, 32])) rfl rfl (B [98, 111, 111, 108]) y2) ?_ | refine Zd ?_ | refine Ze ?_ | refine Zo ?_ | refine ok_seq ?_ | refine ok_reg ?_ | refine Zp ?_ | refine Zq ?_
        | refine ok_block ?_ | refine ok_skip ?_ | refine x_normal_then ?_
      refine ok_forR (ι := Nat × ByteArray) (fun x_ => envL [(1, .ref 0 0), (7, .d (.im (l.map eVr))), (8, vi l.length), (9, vi k), (27, .d (.im (x.clock.map eCnd))), (28, vi x.clock.length), (29, vi x_.1)]) (fun x_ => stL [some (.var [.ref 0 0, .sl 1 7 0 x_.2.size]), some (.row 7 5 1 (byteRows x_.2)), none, none, none, none, none, none]) (fun x_ => x_.1 ≤ x.clock.length ∧ x_.2 ++ (catT clkT (x.clock.drop x_.1) ++ R) = full) (fun x_ => x.clock.length - x_.1) (0, u ++ (x.name ++ B [58, 32]) ++ B [98, 111, 111, 108]) (⟨Nat.zero_le _, i2⟩) Turn.refl (lowR_mk [(7, 6)] rfl rfl rfl ⟨⟨rfl, rfl⟩, ⟨rfl, rfl⟩, ⟨rfl, rfl⟩, ⟨rfl, rfl⟩, ⟨rfl, rfl⟩, ⟨rfl, rfl⟩, ⟨rfl, rfl⟩, trivial⟩ ⟨⟨rfl, rfl⟩, ⟨renO_row rfl (by first | exact byteRows_ren _ _ | rfl), blt_lt rfl, byteRows_low _ _⟩, trivial⟩) ?_
      rintro ⟨q, z⟩ ⟨j1, j2⟩
      simp only at j1 j2
      by_cases hql : q < x.clock.length
      · obtain ⟨c, hy⟩ : ∃ c, x.clock[q]? = some c := ⟨x.clock[q], List.getElem?_eq_getElem hql⟩
        obtain ⟨hd2, hlt2⟩ := drop_some hy
        have eq : decide ((q : Int) < (x.clock.length : Int)) = true := decide_eq_true (by omega)
        rw [hd2] at j2
        simp only [catT] at j2
        rw [ba_assoc] at j2
        have z1 := sz_of j2 hs
        have j2 := nx_of j2
        cases ho : c.on with
        | true =>
          have hct : clkT c = B [32, 119, 104, 101, 110, 32] ++ c.name := by unfold clkT; rw [ho, if_pos rfl]
          rw [hct] at z1 j2
          have z2 := z1
          simp only [ByteArray.size_append] at z2
          repeat' first
            | refine Z1 ?_ | refine Z2 ?_ | refine Z3 ?_ | refine Z5 ?_ | refine Ul (a := B [32, 119, 104, 101, 110, 32]) (b := c.name) (hb := by rw [ByteArray.size_append]; omega) ?_
            | refine Ym (write_ok (i := 0) (r := 1) (h := 7) (t := z) rfl rfl (B [32, 119, 104, 101, 110, 32] ++ c.name) z1) ?_ | refine Ze ?_ | refine Zf ?_ | refine Zo ?_ | refine ok_seq ?_ | refine ok_reg ?_ | refine Zp ?_
            | refine ok_block ?_ | refine ok_skip ?_ | refine x_normal_then ?_ | refine x_normal_block ?_
          exact ⟨(q + 1, z ++ (B [32, 119, 104, 101, 110, 32] ++ c.name)), ⟨hlt2, j2⟩, by (try simp only); omega, lowR_mk [(7, 9)] rfl rfl rfl ⟨⟨rfl, rfl⟩, ⟨rfl, rfl⟩, ⟨rfl, rfl⟩, ⟨rfl, rfl⟩, ⟨rfl, rfl⟩, ⟨rfl, rfl⟩, ⟨rfl, rfl⟩, trivial⟩ ⟨⟨rfl, rfl⟩, ⟨renO_row rfl (by first | exact byteRows_ren _ _ | rfl), blt_lt rfl, byteRows_low _ _⟩, trivial⟩⟩
        | false =>
          have hct : clkT c = B [32, 119, 104, 101, 110, 111, 116, 32] ++ c.name := by unfold clkT; rw [ho, if_neg (by decide)]
          rw [hct] at z1 j2
          have z2 := z1
          simp only [ByteArray.size_append] at z2
          repeat' first
            | refine Z1 ?_ | refine Z2 ?_ | refine Z3 ?_ | refine Z5 ?_ | refine Ul (a := B [32, 119, 104, 101, 110, 111, 116, 32]) (b := c.name) (hb := by rw [ByteArray.size_append]; omega) ?_
            | refine Ym (write_ok (i := 0) (r := 1) (h := 7) (t := z) rfl rfl (B [32, 119, 104, 101, 110, 111, 116, 32] ++ c.name) z1) ?_ | refine Ze ?_ | refine Zf ?_ | refine Zo ?_ | refine ok_seq ?_ | refine ok_reg ?_ | refine Zp ?_
            | refine Zq ?_ | refine ok_block ?_ | refine ok_skip ?_ | refine x_normal_then ?_ | refine x_normal_block ?_
          exact ⟨(q + 1, z ++ (B [32, 119, 104, 101, 110, 111, 116, 32] ++ c.name)), ⟨hlt2, j2⟩, by (try simp only); omega, lowR_mk [(7, 9)] rfl rfl rfl ⟨⟨rfl, rfl⟩, ⟨rfl, rfl⟩, ⟨rfl, rfl⟩, ⟨rfl, rfl⟩, ⟨rfl, rfl⟩, ⟨rfl, rfl⟩, ⟨rfl, rfl⟩, trivial⟩ ⟨⟨rfl, rfl⟩, ⟨renO_row rfl (by first | exact byteRows_ren _ _ | rfl), blt_lt rfl, byteRows_low _ _⟩, trivial⟩⟩
      · have eq : decide ((q : Int) < (x.clock.length : Int)) = false := decide_eq_false (by omega)
        rw [List.drop_eq_nil_of_le (by omega)] at j2
        simp only [catT, nil_ba] at j2
        rw [hR] at j2
        repeat' first
          | refine Z1 ?_ | refine Z2 ?_ | refine Z5 ?_ | refine Zf ?_ | refine Zo ?_ | refine ok_seq ?_ | refine ok_reg ?_ | refine Zq ?_ | refine ok_exit ?_ | refine x_normal_then ?_ | refine x_exit_here ?_ | refine Zv ?_
          | refine x_normal_block ?_
        exact ⟨(k + 1, z), ⟨hlt, j2⟩, by (try simp only); omega, lowR_mk [(3, 7)] rfl rfl rfl ⟨⟨rfl, rfl⟩, ⟨rfl, rfl⟩, ⟨rfl, rfl⟩, ⟨rfl, rfl⟩, trivial⟩ ⟨⟨rfl, rfl⟩, ⟨renO_row rfl (by first | exact byteRows_ren _ _ | rfl), blt_lt rfl, byteRows_low _ _⟩, trivial⟩⟩
end Go.Pm
set_option linter.unusedVariables false
set_option linter.unusedSimpArgs false
namespace Go.Pm
attribute [local irreducible] AR Ok inBlock andThen endQ aoper
set_option maxHeartbeats 1000000
open Go.Proofs
def exprI (l : List Itm) : Bool := if (l.length : Int) < 1 ∨ 3000 < (l.length : Int) then false else l.all itemI && postI 0 l
theorem expr_ok (l : List Itm) (hl : l.length < 1099511627776) : PFun X 47 [.d (.im (l.map eItm))] (vb (exprI l)) := by
  refine pfun_of Tryd.func47 rfl (by decide) Tryd.ntmps47 Tryd.results47 (by simp) rfl rfl ?_
  by_cases hbig : (l.length : Int) < 1 ∨ 3000 < (l.length : Int)
  · have hn : exprI l = false := by simp [exprI, hbig]
    repeat' first
      | refine Z1 ?_ | refine Z2 ?_ | refine Z3 ?_ | refine Z4 ?_ | refine Z5 ?_ | refine Z6 ?_ | refine Z7 ?_ | refine Z8 ?_ | refine Z9 ?_ | refine Za (fun hc => ?_) (fun hc => ?_) | refine Zb (fun hc => ?_) (fun hc => ?_) | refine Zd ?_
      | refine Ze ?_ | refine Zf ?_ | refine Zg ?_ | refine Zh ?_ | refine Zi ?_ | refine Zj ?_ | refine Zk ?_ | refine Zl ?_ | refine Zm ?_ | refine Zn (fun hc => ?_) (fun hc => ?_) | refine Zo ?_ | refine ok_seq ?_ | refine ok_reg ?_
      | refine Zp ?_ | refine Zq ?_ | refine Zr (fun hc => ?_) (fun hc => ?_) | refine ok_block ?_ | refine ok_exit ?_ | refine ok_skip ?_ | refine ok_ret ?_ | refine x_normal_then ?_ | refine x_exit_here ?_ | refine Zs ?_ | refine Zv ?_
      | refine x_ret_then ?_ | refine x_ret_block ?_ | refine x_normal_block ?_ | refine Zt ?_ | refine Zu ?_
    all_goals simp only [decide_eq_true_eq, decide_eq_false_iff_not, Bool.not_eq_true, Bool.not_eq_false, Bool.not_eq_eq_eq_not, Bool.not_true, Bool.not_false] at *
    all_goals first
      | exact ret_vb hn.symm
      | (exfalso; omega)
  · have e1 : decide ((l.length : Int) < 1) = false := decide_eq_false (by omega)
    have e2 : decide (3000 < (l.length : Int)) = false := decide_eq_false (by omega)
    have hn : exprI l = (l.all itemI && postI 0 l) := by simp only [exprI, hbig, if_false]
    repeat' first
      | refine Z1 ?_ | refine Z2 ?_ | refine Z3 ?_ | refine Z4 ?_ | refine Z5 ?_ | refine Z6 ?_ | refine Z7 ?_ | refine Z8 ?_ | refine Z9 ?_ | refine Za (fun hc => ?_) (fun hc => ?_) | refine Zb (fun hc => ?_) (fun hc => ?_) | refine Zd ?_
      | refine Ze ?_ | refine Zf ?_ | refine Zg ?_ | refine Zh ?_ | refine Zi ?_ | refine Zj ?_ | refine Zk ?_ | refine Zl ?_ | refine Zm ?_ | refine Zn (fun hc => ?_) (fun hc => ?_) | refine Zo ?_ | refine ok_seq ?_ | refine ok_reg ?_
      | refine Zp ?_ | refine Zq ?_ | refine Zr (fun hc => ?_) (fun hc => ?_) | refine ok_block ?_ | refine ok_exit ?_ | refine ok_skip ?_ | refine ok_ret ?_ | refine x_normal_then ?_ | refine x_exit_here ?_ | refine Zs ?_ | refine Zv ?_
      | refine x_ret_then ?_ | refine x_ret_block ?_ | refine x_normal_block ?_ | refine Zt ?_ | refine Zu ?_
    refine ok_for (ι := Nat) (fun x => envL [(0, .d (.im (l.map eItm))), (2, vb false), (13, .d (.im (l.map eItm))), (14, vi l.length), (15, vi x)]) (fun x => stL []) (fun x => x ≤ l.length ∧ ((l.drop x).all itemI && postI 0 l) = exprI l) (fun x => l.length - x) 0 (⟨by omega, by rw [hn]; simp⟩) (weak_mk rfl ⟨.refl _, .refl _, .refl _, .refl _, .refl _, trivial⟩ trivial) (fun _ => Nat.le_refl 0) ?_
    rintro k ⟨i1, i2⟩
    rcases hx : l[k]? with _ | x
    · have hle := none_le hx
      have ek : decide ((k : Int) < (l.length : Int)) = false := decide_eq_false (by omega)
      rw [drop_none hx] at i2
      repeat' first
        | refine Z1 ?_ | refine Z2 ?_ | refine Z3 ?_ | refine Z4 ?_ | refine Z5 ?_ | refine Z6 ?_ | refine Z7 ?_ | refine Z8 ?_ | refine Z9 ?_ | refine Za (fun hc => ?_) (fun hc => ?_) | refine Zb (fun hc => ?_) (fun hc => ?_)
        | refine Zc (postfix_ok _ hl) ?_ | refine Zd ?_ | refine Ze ?_ | refine Zf ?_ | refine Zg ?_ | refine Zh ?_ | refine Zi ?_ | refine Zj ?_ | refine Zk ?_ | refine Zl ?_ | refine Zm ?_ | refine Zn (fun hc => ?_) (fun hc => ?_)
        | refine Zo ?_ | refine ok_seq ?_ | refine ok_reg ?_ | refine Zp ?_ | refine Zq ?_ | refine Zr (fun hc => ?_) (fun hc => ?_) | refine ok_block ?_ | refine ok_exit ?_ | refine ok_skip ?_ | refine ok_ret ?_ | refine x_normal_then ?_
        | refine x_exit_here ?_ | refine Zs ?_ | refine Zv ?_ | refine x_ret_then ?_ | refine x_ret_block ?_ | refine x_normal_block ?_ | refine Zt ?_ | refine Zu ?_
      exact ret_vb i2
    · obtain ⟨hd, hlt⟩ := drop_some hx
      have ek : decide ((k : Int) < (l.length : Int)) = true := decide_eq_true (by omega)
      rw [hd, List.all_cons] at i2
      cases hdx : itemI x with
      | false =>
        have ex : (!itemI x) = true := by rw [hdx]; rfl
        repeat' first
          | refine Z1 ?_ | refine Z2 ?_ | refine Z3 ?_ | refine Z4 ?_ | refine Z5 ?_ | refine Z6 ?_ | refine Z7 ?_ | refine Z8 ?_ | refine Z9 ?_ | refine Za (fun hc => ?_) (fun hc => ?_) | refine Zb (fun hc => ?_) (fun hc => ?_)
          | refine Zc (item_ok x) ?_ | refine Zd ?_ | refine Ze ?_ | refine Zf ?_ | refine Zg ?_ | refine Zh ?_ | refine Zi ?_ | refine Zj ?_ | refine Zk ?_ | refine Zl ?_ | refine Zm ?_ | refine Zn (fun hc => ?_) (fun hc => ?_)
          | refine Zo ?_ | refine ok_seq ?_ | refine ok_reg ?_ | refine Zp ?_ | refine Zq ?_ | refine Zr (fun hc => ?_) (fun hc => ?_) | refine ok_block ?_ | refine ok_exit ?_ | refine ok_skip ?_ | refine ok_ret ?_ | refine x_normal_then ?_
          | refine x_exit_here ?_ | refine Zs ?_ | refine Zv ?_ | refine x_ret_then ?_ | refine x_ret_block ?_ | refine x_normal_block ?_ | refine Zt ?_ | refine Zu ?_
        exact ret_vb (by rw [← i2, hdx]; rfl)
      | true =>
        have ex : (!itemI x) = false := by rw [hdx]; rfl
        repeat' first
          | refine Z1 ?_ | refine Z2 ?_ | refine Z3 ?_ | refine Z4 ?_ | refine Z5 ?_ | refine Z6 ?_ | refine Z7 ?_ | refine Z8 ?_ | refine Z9 ?_ | refine Za (fun hc => ?_) (fun hc => ?_) | refine Zb (fun hc => ?_) (fun hc => ?_)
          | refine Zc (item_ok x) ?_ | refine Zd ?_ | refine Ze ?_ | refine Zf ?_ | refine Zg ?_ | refine Zh ?_ | refine Zi ?_ | refine Zj ?_ | refine Zk ?_ | refine Zl ?_ | refine Zm ?_ | refine Zn (fun hc => ?_) (fun hc => ?_)
          | refine Zo ?_ | refine ok_seq ?_ | refine ok_reg ?_ | refine Zp ?_ | refine Zq ?_ | refine Zr (fun hc => ?_) (fun hc => ?_) | refine ok_block ?_ | refine ok_exit ?_ | refine ok_skip ?_ | refine ok_ret ?_ | refine x_normal_then ?_
          | refine x_exit_here ?_ | refine Zs ?_ | refine Zv ?_ | refine x_ret_then ?_ | refine x_ret_block ?_ | refine x_normal_block ?_ | refine Zt ?_ | refine Zu ?_
        rw [hdx, Bool.true_and] at i2
        exact ⟨k + 1, ⟨by omega, i2⟩, by (try simp only); omega, low_mk (Nat.zero_le _) ⟨⟨rfl, rfl⟩, ⟨rfl, rfl⟩, ⟨rfl, rfl⟩, ⟨rfl, rfl⟩, ⟨rfl, rfl⟩, trivial⟩ trivial⟩
end Go.Pm
/- The laws' copies and comparisons (printed by gen_to.py). -/
set_option linter.unusedVariables false
set_option linter.unusedSimpArgs false
namespace Go.Pm
attribute [local irreducible] AR Ok inBlock andThen endQ aoper
set_option maxHeartbeats 1000000
open Go.Proofs
theorem wL_mem {α : Type} {w : α → Nat} {x : α} : ∀ {l : List α}, x ∈ l → w x ≤ (l.map w).sum
  | y :: l, h => by
    simp only [List.map_cons, List.sum_cons]
    rcases List.mem_cons.1 h with rfl | h
    · omega
    · have := wL_mem (w := w) h; omega

theorem toCond_ok (x : Cnd) (hw : wCnd x ≤ 1048576) : PFun X 122 [.agg ((eCnd x).map .d)] (.agg ((eCnd x).map .d)) := by
  simp only [wCnd] at hw
  refine pfun_of Tryd.func122 rfl (by decide) Tryd.ntmps122 Tryd.results122 (by simp) rfl rfl ?_
  repeat' first
    | refine Z1 ?_ | refine Z2 ?_ | refine Zo ?_ | refine ok_ret ?_ | refine Zu ?_
  rfl
theorem eqCond_ok (x : Cnd) (hw : wCnd x ≤ 1048576) : PFun X 129 [.agg ((eCnd x).map .d), .agg ((eCnd x).map .d)] (vb true) := by
  simp only [wCnd] at hw
  have ht : (!true) = false := rfl
  have e0 : decide (x.name ≠ x.name) = false := decide_eq_false (fun h => h rfl)
  have e9 : (!(x.on == x.on)) = false := by simp
  refine pfun_of Tryd.func129 rfl (by decide) Tryd.ntmps129 Tryd.results129 (by simp) rfl rfl ?_
  repeat' first
    | refine Z1 ?_ | refine Z2 ?_ | refine Z5 ?_ | refine Zj ?_ | refine Zo ?_ | refine ok_seq ?_ | refine Zq ?_ | refine ok_skip ?_ | refine ok_ret ?_ | refine x_normal_then ?_ | refine Zt ?_
  rfl

theorem toCondS_ok (l : List (Cnd)) (hw : wL (wCnd) l ≤ 1048576) : PFun X 108 [.d (.im (l.map eCnd))] (.d (.im (l.map eCnd))) := by
  simp only [wL] at hw
  refine pfun_of Tryd.func108 rfl (by decide) Tryd.ntmps108 Tryd.results108 (by simp) rfl rfl ?_
  repeat' first
    | refine Z1 ?_ | refine Z2 ?_ | refine Z5 ?_ | refine op_make (k := l.length) rfl rfl (by omega) rfl rfl rfl rfl rfl rfl ?_ | refine Zd ?_ | refine Zo ?_ | refine ok_seq ?_ | refine ok_block ?_
  refine ok_for (ι := Nat) (fun x => envL [(0, .d (.im (l.map eCnd))), (3, .sl 0 0 0 l.length), (4, vi x)]) (fun x => stL [some (.row 0 62 2 (trk eCnd l x [.d (.s (.string .empty)), .d (.s (.bool false))]))]) (fun x => x ≤ l.length) (fun x => l.length - x) 0 (Nat.zero_le _) (weak_mk rfl ⟨.refl _, .refl _, .refl _, trivial⟩ ⟨⟨rfl, _, rfl, rfl, rfl, rfl, rfl⟩, trivial⟩) (fun _ => Nat.le_refl 1) ?_
  intro k i1
  rcases hx : l[k]? with _ | x
  · have hle := none_le hx
    have ek : decide ((k : Int) < (l.length : Int)) = false := decide_eq_false (by omega)
    repeat' first
      | refine Z1 ?_ | refine Z2 ?_ | refine Z5 ?_ | refine Zd ?_ | refine fz_rows (trk_all hle) 2 rfl rfl rfl ?_ | refine Zo ?_ | refine ok_seq ?_ | refine Zq ?_ | refine ok_exit ?_ | refine ok_ret ?_ | refine x_normal_then ?_
      | refine x_exit_here ?_ | refine Zv ?_ | refine Zt ?_
    rfl
  · obtain ⟨hdr, hlt⟩ := drop_some hx
    have hwx := wL_mem (w := wCnd) (List.mem_of_getElem? hx)
    have ek : decide ((k : Int) < (l.length : Int)) = true := decide_eq_true (by omega)
    repeat' first
      | refine Z1 ?_ | refine Z2 ?_ | refine Z3 ?_ | refine Z5 ?_ | refine op_place rfl rfl hlt rfl rfl rfl rfl ?_ | refine op_putk hx rfl rfl rfl rfl rfl rfl rfl rfl ?_ | refine Zc (toCond_ok x (by omega)) ?_ | refine Zd ?_ | refine Ze ?_
      | refine Zf ?_ | refine Zo ?_ | refine ok_seq ?_ | refine ok_reg ?_ | refine Zp ?_ | refine ok_block ?_ | refine ok_skip ?_ | refine x_normal_then ?_ | refine x_normal_block ?_
    exact ⟨k + 1, hlt, by (try simp only); omega, low_mk (Nat.le_of_ble_eq_true rfl) ⟨⟨rfl, rfl⟩, ⟨rfl, rfl⟩, ⟨rfl, rfl⟩, trivial⟩ ⟨⟨rfl, blt_lt rfl, trk_low _ _ _ _ rfl⟩, trivial⟩⟩
theorem eqCondS_ok (l : List (Cnd)) (hw : wL (wCnd) l ≤ 1048576) : PFun X 116 [.d (.im (l.map eCnd)), .d (.im (l.map eCnd))] (vb true) := by
  have ht : (!true) = false := rfl
  simp only [wL] at hw
  have e0 : decide ((l.length : Int) ≠ (l.length : Int)) = false := decide_eq_false (fun h => h rfl)
  refine pfun_of Tryd.func116 rfl (by decide) Tryd.ntmps116 Tryd.results116 (by simp) rfl rfl ?_
  repeat' first
    | refine Z1 ?_ | refine Z2 ?_ | refine Z5 ?_ | refine Zd ?_ | refine Zo ?_ | refine ok_seq ?_ | refine Zq ?_ | refine ok_block ?_ | refine ok_skip ?_ | refine x_normal_then ?_
  refine ok_for (ι := Nat) (fun x => envL [(0, .d (.im (l.map eCnd))), (1, .d (.im (l.map eCnd))), (4, vb false), (5, vi x)]) (fun x => stL []) (fun x => x ≤ l.length) (fun x => l.length - x) 0 (Nat.zero_le _) (weak_mk rfl ⟨.refl _, .refl _, .refl _, .refl _, trivial⟩ trivial) (fun _ => Nat.le_refl 0) ?_
  intro k i1
  rcases hx : l[k]? with _ | x
  · have hle := none_le hx
    have ek : decide ((k : Int) < (l.length : Int)) = false := decide_eq_false (by omega)
    repeat' first
      | refine Z1 ?_ | refine Z2 ?_ | refine Z5 ?_ | refine Zd ?_ | refine Zo ?_ | refine ok_seq ?_ | refine Zq ?_ | refine ok_exit ?_ | refine ok_ret ?_ | refine x_normal_then ?_ | refine x_exit_here ?_ | refine Zv ?_ | refine Zt ?_
    rfl
  · obtain ⟨hdr, hlt⟩ := drop_some hx
    have hwx := wL_mem (w := wCnd) (List.mem_of_getElem? hx)
    have ek : decide ((k : Int) < (l.length : Int)) = true := decide_eq_true (by omega)
    repeat' first
      | refine Z1 ?_ | refine Z2 ?_ | refine Z5 ?_ | refine Zd ?_ | refine Zf ?_ | refine Zw ?_ | refine Zx ?_ | refine Zz (Zc (eqCond_ok x (by omega)) ⟨rfl, rfl⟩) ?_ | refine Zz (Ze ⟨rfl, rfl⟩) ?_ | refine Zo ?_ | refine ok_seq ?_
      | refine ok_reg ?_ | refine ok_draw X_mixed (by decide +kernel) ?_ | refine Zp ?_ | refine Zq ?_ | refine ok_block ?_ | refine ok_skip ?_ | refine x_normal_then ?_ | refine x_normal_block ?_
    exact ⟨k + 1, hlt, by (try simp only); omega, low_mk (Nat.zero_le _) ⟨⟨rfl, rfl⟩, ⟨rfl, rfl⟩, ⟨rfl, rfl⟩, ⟨rfl, rfl⟩, trivial⟩ trivial⟩

theorem toItem_ok (x : Itm) (hw : wItm x ≤ 1048576) : PFun X 123 [.agg ((eItm x).map .d)] (.agg ((eItm x).map .d)) := by
  simp only [wItm] at hw
  refine pfun_of Tryd.func123 rfl (by decide) Tryd.ntmps123 Tryd.results123 (by simp) rfl rfl ?_
  repeat' first
    | refine Z1 ?_ | refine Z2 ?_ | refine Zo ?_ | refine ok_ret ?_ | refine Zu ?_
  rfl
theorem eqItem_ok (x : Itm) (hw : wItm x ≤ 1048576) : PFun X 130 [.agg ((eItm x).map .d), .agg ((eItm x).map .d)] (vb true) := by
  simp only [wItm] at hw
  have ht : (!true) = false := rfl
  have e0 : decide (x.op ≠ x.op) = false := decide_eq_false (fun h => h rfl)
  have e1 : decide (x.val ≠ x.val) = false := decide_eq_false (fun h => h rfl)
  have e2 : decide (x.name ≠ x.name) = false := decide_eq_false (fun h => h rfl)
  refine pfun_of Tryd.func130 rfl (by decide) Tryd.ntmps130 Tryd.results130 (by simp) rfl rfl ?_
  repeat' first
    | refine Z1 ?_ | refine Z2 ?_ | refine Zo ?_ | refine ok_seq ?_ | refine Zq ?_ | refine ok_skip ?_ | refine ok_ret ?_ | refine x_normal_then ?_ | refine Zt ?_
  rfl

theorem toItemS_ok (l : List (Itm)) (hw : wL (wItm) l ≤ 1048576) : PFun X 110 [.d (.im (l.map eItm))] (.d (.im (l.map eItm))) := by
  simp only [wL] at hw
  refine pfun_of Tryd.func110 rfl (by decide) Tryd.ntmps110 Tryd.results110 (by simp) rfl rfl ?_
  repeat' first
    | refine Z1 ?_ | refine Z2 ?_ | refine Z5 ?_ | refine op_make (k := l.length) rfl rfl (by omega) rfl rfl rfl rfl rfl rfl ?_ | refine Zd ?_ | refine Zo ?_ | refine ok_seq ?_ | refine ok_block ?_
  refine ok_for (ι := Nat) (fun x => envL [(0, .d (.im (l.map eItm))), (3, .sl 0 0 0 l.length), (4, vi x)]) (fun x => stL [some (.row 0 99 3 (trk eItm l x [.d (.s (.int .i64 0)), .d (.s (.int .i64 0)), .d (.s (.string .empty))]))]) (fun x => x ≤ l.length) (fun x => l.length - x) 0 (Nat.zero_le _) (weak_mk rfl ⟨.refl _, .refl _, .refl _, trivial⟩ ⟨⟨rfl, _, rfl, rfl, rfl, rfl, rfl⟩, trivial⟩) (fun _ => Nat.le_refl 1) ?_
  intro k i1
  rcases hx : l[k]? with _ | x
  · have hle := none_le hx
    have ek : decide ((k : Int) < (l.length : Int)) = false := decide_eq_false (by omega)
    repeat' first
      | refine Z1 ?_ | refine Z2 ?_ | refine Z5 ?_ | refine Zd ?_ | refine fz_rows (trk_all hle) 2 rfl rfl rfl ?_ | refine Zo ?_ | refine ok_seq ?_ | refine Zq ?_ | refine ok_exit ?_ | refine ok_ret ?_ | refine x_normal_then ?_
      | refine x_exit_here ?_ | refine Zv ?_ | refine Zt ?_
    rfl
  · obtain ⟨hdr, hlt⟩ := drop_some hx
    have hwx := wL_mem (w := wItm) (List.mem_of_getElem? hx)
    have ek : decide ((k : Int) < (l.length : Int)) = true := decide_eq_true (by omega)
    repeat' first
      | refine Z1 ?_ | refine Z2 ?_ | refine Z3 ?_ | refine Z5 ?_ | refine op_place rfl rfl hlt rfl rfl rfl rfl ?_ | refine op_putk hx rfl rfl rfl rfl rfl rfl rfl rfl ?_ | refine Zc (toItem_ok x (by omega)) ?_ | refine Zd ?_ | refine Ze ?_
      | refine Zf ?_ | refine Zo ?_ | refine ok_seq ?_ | refine ok_reg ?_ | refine Zp ?_ | refine ok_block ?_ | refine ok_skip ?_ | refine x_normal_then ?_ | refine x_normal_block ?_
    exact ⟨k + 1, hlt, by (try simp only); omega, low_mk (Nat.le_of_ble_eq_true rfl) ⟨⟨rfl, rfl⟩, ⟨rfl, rfl⟩, ⟨rfl, rfl⟩, trivial⟩ ⟨⟨rfl, blt_lt rfl, trk_low _ _ _ _ rfl⟩, trivial⟩⟩
theorem eqItemS_ok (l : List (Itm)) (hw : wL (wItm) l ≤ 1048576) : PFun X 118 [.d (.im (l.map eItm)), .d (.im (l.map eItm))] (vb true) := by
  have ht : (!true) = false := rfl
  simp only [wL] at hw
  have e0 : decide ((l.length : Int) ≠ (l.length : Int)) = false := decide_eq_false (fun h => h rfl)
  refine pfun_of Tryd.func118 rfl (by decide) Tryd.ntmps118 Tryd.results118 (by simp) rfl rfl ?_
  repeat' first
    | refine Z1 ?_ | refine Z2 ?_ | refine Z5 ?_ | refine Zd ?_ | refine Zo ?_ | refine ok_seq ?_ | refine Zq ?_ | refine ok_block ?_ | refine ok_skip ?_ | refine x_normal_then ?_
  refine ok_for (ι := Nat) (fun x => envL [(0, .d (.im (l.map eItm))), (1, .d (.im (l.map eItm))), (4, vb false), (5, vi x)]) (fun x => stL []) (fun x => x ≤ l.length) (fun x => l.length - x) 0 (Nat.zero_le _) (weak_mk rfl ⟨.refl _, .refl _, .refl _, .refl _, trivial⟩ trivial) (fun _ => Nat.le_refl 0) ?_
  intro k i1
  rcases hx : l[k]? with _ | x
  · have hle := none_le hx
    have ek : decide ((k : Int) < (l.length : Int)) = false := decide_eq_false (by omega)
    repeat' first
      | refine Z1 ?_ | refine Z2 ?_ | refine Z5 ?_ | refine Zd ?_ | refine Zo ?_ | refine ok_seq ?_ | refine Zq ?_ | refine ok_exit ?_ | refine ok_ret ?_ | refine x_normal_then ?_ | refine x_exit_here ?_ | refine Zv ?_ | refine Zt ?_
    rfl
  · obtain ⟨hdr, hlt⟩ := drop_some hx
    have hwx := wL_mem (w := wItm) (List.mem_of_getElem? hx)
    have ek : decide ((k : Int) < (l.length : Int)) = true := decide_eq_true (by omega)
    repeat' first
      | refine Z1 ?_ | refine Z2 ?_ | refine Z5 ?_ | refine Zd ?_ | refine Zf ?_ | refine Zw ?_ | refine Zx ?_ | refine Zz (Zc (eqItem_ok x (by omega)) ⟨rfl, rfl⟩) ?_ | refine Zz (Ze ⟨rfl, rfl⟩) ?_ | refine Zo ?_ | refine ok_seq ?_
      | refine ok_reg ?_ | refine ok_draw X_mixed (by decide +kernel) ?_ | refine Zp ?_ | refine Zq ?_ | refine ok_block ?_ | refine ok_skip ?_ | refine x_normal_then ?_ | refine x_normal_block ?_
    exact ⟨k + 1, hlt, by (try simp only); omega, low_mk (Nat.zero_le _) ⟨⟨rfl, rfl⟩, ⟨rfl, rfl⟩, ⟨rfl, rfl⟩, ⟨rfl, rfl⟩, trivial⟩ trivial⟩

theorem toStringS_ok (l : List (ByteArray)) (hw : wL (wStr) l ≤ 1048576) : PFun X 109 [.d (.im (l.map eStr))] (.d (.im (l.map eStr))) := by
  simp only [wL] at hw
  refine pfun_of Tryd.func109 rfl (by decide) Tryd.ntmps109 Tryd.results109 (by simp) rfl rfl ?_
  repeat' first
    | refine Z1 ?_ | refine Z2 ?_ | refine Z5 ?_ | refine op_make (k := l.length) rfl rfl (by omega) rfl rfl rfl rfl rfl rfl ?_ | refine Zd ?_ | refine Zo ?_ | refine ok_seq ?_ | refine ok_block ?_
  refine ok_for (ι := Nat) (fun x => envL [(0, .d (.im (l.map eStr))), (3, .sl 0 0 0 l.length), (4, vi x)]) (fun x => stL [some (.row 0 9 1 (trk eStr l x [.d (.s (.string .empty))]))]) (fun x => x ≤ l.length) (fun x => l.length - x) 0 (Nat.zero_le _) (weak_mk rfl ⟨.refl _, .refl _, .refl _, trivial⟩ ⟨⟨rfl, _, rfl, rfl, rfl, rfl, rfl⟩, trivial⟩) (fun _ => Nat.le_refl 1) ?_
  intro k i1
  rcases hx : l[k]? with _ | x
  · have hle := none_le hx
    have ek : decide ((k : Int) < (l.length : Int)) = false := decide_eq_false (by omega)
    repeat' first
      | refine Z1 ?_ | refine Z2 ?_ | refine Z5 ?_ | refine Zd ?_ | refine fz_rows (trk_all hle) 2 rfl rfl rfl ?_ | refine Zo ?_ | refine ok_seq ?_ | refine Zq ?_ | refine ok_exit ?_ | refine ok_ret ?_ | refine x_normal_then ?_
      | refine x_exit_here ?_ | refine Zv ?_ | refine Zt ?_
    rfl
  · obtain ⟨hdr, hlt⟩ := drop_some hx
    have hwx := wL_mem (w := wStr) (List.mem_of_getElem? hx)
    have ek : decide ((k : Int) < (l.length : Int)) = true := decide_eq_true (by omega)
    repeat' first
      | refine Z1 ?_ | refine Z2 ?_ | refine Z3 ?_ | refine Z5 ?_ | refine op_place rfl rfl hlt rfl rfl rfl rfl ?_ | refine op_putk hx rfl rfl rfl rfl rfl rfl rfl rfl ?_ | refine Zd ?_ | refine Ze ?_ | refine Zf ?_ | refine Zo ?_
      | refine ok_seq ?_ | refine ok_reg ?_ | refine Zp ?_ | refine ok_block ?_ | refine ok_skip ?_ | refine x_normal_then ?_ | refine x_normal_block ?_
    exact ⟨k + 1, hlt, by (try simp only); omega, low_mk (Nat.le_of_ble_eq_true rfl) ⟨⟨rfl, rfl⟩, ⟨rfl, rfl⟩, ⟨rfl, rfl⟩, trivial⟩ ⟨⟨rfl, blt_lt rfl, trk_low _ _ _ _ rfl⟩, trivial⟩⟩
theorem eqStringS_ok (l : List (ByteArray)) (hw : wL (wStr) l ≤ 1048576) : PFun X 117 [.d (.im (l.map eStr)), .d (.im (l.map eStr))] (vb true) := by
  have ht : (!true) = false := rfl
  simp only [wL] at hw
  have e0 : decide ((l.length : Int) ≠ (l.length : Int)) = false := decide_eq_false (fun h => h rfl)
  refine pfun_of Tryd.func117 rfl (by decide) Tryd.ntmps117 Tryd.results117 (by simp) rfl rfl ?_
  repeat' first
    | refine Z1 ?_ | refine Z2 ?_ | refine Z5 ?_ | refine Zd ?_ | refine Zo ?_ | refine ok_seq ?_ | refine Zq ?_ | refine ok_block ?_ | refine ok_skip ?_ | refine x_normal_then ?_
  refine ok_for (ι := Nat) (fun x => envL [(0, .d (.im (l.map eStr))), (1, .d (.im (l.map eStr))), (4, vb false), (5, vi x)]) (fun x => stL []) (fun x => x ≤ l.length) (fun x => l.length - x) 0 (Nat.zero_le _) (weak_mk rfl ⟨.refl _, .refl _, .refl _, .refl _, trivial⟩ trivial) (fun _ => Nat.le_refl 0) ?_
  intro k i1
  rcases hx : l[k]? with _ | x
  · have hle := none_le hx
    have ek : decide ((k : Int) < (l.length : Int)) = false := decide_eq_false (by omega)
    repeat' first
      | refine Z1 ?_ | refine Z2 ?_ | refine Z5 ?_ | refine Zd ?_ | refine Zo ?_ | refine ok_seq ?_ | refine Zq ?_ | refine ok_exit ?_ | refine ok_ret ?_ | refine x_normal_then ?_ | refine x_exit_here ?_ | refine Zv ?_ | refine Zt ?_
    rfl
  · obtain ⟨hdr, hlt⟩ := drop_some hx
    have hwx := wL_mem (w := wStr) (List.mem_of_getElem? hx)
    have ek : decide ((k : Int) < (l.length : Int)) = true := decide_eq_true (by omega)
    have ee : decide (x ≠ x) = false := decide_eq_false (fun h => h rfl)
    repeat' first
      | refine Z1 ?_ | refine Z2 ?_ | refine Z5 ?_ | refine Zd ?_ | refine Zf ?_ | refine Zw ?_ | refine Zx ?_ | refine Zz (Ze ⟨rfl, rfl⟩) ?_ | refine Zo ?_ | refine ok_seq ?_ | refine ok_reg ?_ | refine ok_draw X_mixed (by decide +kernel) ?_
      | refine Zp ?_ | refine Zq ?_ | refine ok_block ?_ | refine ok_skip ?_ | refine x_normal_then ?_ | refine x_normal_block ?_
    exact ⟨k + 1, hlt, by (try simp only); omega, low_mk (Nat.zero_le _) ⟨⟨rfl, rfl⟩, ⟨rfl, rfl⟩, ⟨rfl, rfl⟩, ⟨rfl, rfl⟩, trivial⟩ trivial⟩

theorem toItemSS_ok (l : List (List Itm)) (hw : wL (wL wItm) l ≤ 1048576) : PFun X 111 [.d (.im (l.map eItms))] (.d (.im (l.map eItms))) := by
  simp only [wL] at hw
  refine pfun_of Tryd.func111 rfl (by decide) Tryd.ntmps111 Tryd.results111 (by simp) rfl rfl ?_
  repeat' first
    | refine Z1 ?_ | refine Z2 ?_ | refine Z5 ?_ | refine op_make (k := l.length) rfl rfl (by omega) rfl rfl rfl rfl rfl rfl ?_ | refine Zd ?_ | refine Zo ?_ | refine ok_seq ?_ | refine ok_block ?_
  refine ok_for (ι := Nat) (fun x => envL [(0, .d (.im (l.map eItms))), (3, .sl 0 0 0 l.length), (4, vi x)]) (fun x => stL [some (.row 0 44 1 (trk eItms l x [.d (.s (.slice none 0 0))]))]) (fun x => x ≤ l.length) (fun x => l.length - x) 0 (Nat.zero_le _) (weak_mk rfl ⟨.refl _, .refl _, .refl _, trivial⟩ ⟨⟨rfl, _, rfl, rfl, rfl, rfl, rfl⟩, trivial⟩) (fun _ => Nat.le_refl 1) ?_
  intro k i1
  rcases hx : l[k]? with _ | x
  · have hle := none_le hx
    have ek : decide ((k : Int) < (l.length : Int)) = false := decide_eq_false (by omega)
    repeat' first
      | refine Z1 ?_ | refine Z2 ?_ | refine Z5 ?_ | refine Zd ?_ | refine fz_rows (trk_all hle) 2 rfl rfl rfl ?_ | refine Zo ?_ | refine ok_seq ?_ | refine Zq ?_ | refine ok_exit ?_ | refine ok_ret ?_ | refine x_normal_then ?_
      | refine x_exit_here ?_ | refine Zv ?_ | refine Zt ?_
    rfl
  · obtain ⟨hdr, hlt⟩ := drop_some hx
    have hwx := wL_mem (w := wL wItm) (List.mem_of_getElem? hx)
    have ek : decide ((k : Int) < (l.length : Int)) = true := decide_eq_true (by omega)
    repeat' first
      | refine Z1 ?_ | refine Z2 ?_ | refine Z3 ?_ | refine Z5 ?_ | refine op_place rfl rfl hlt rfl rfl rfl rfl ?_ | refine op_putk hx rfl rfl rfl rfl rfl rfl rfl rfl ?_ | refine Zc (toItemS_ok x (by omega)) ?_ | refine Zd ?_ | refine Ze ?_
      | refine Zf ?_ | refine Zo ?_ | refine ok_seq ?_ | refine ok_reg ?_ | refine Zp ?_ | refine ok_block ?_ | refine ok_skip ?_ | refine x_normal_then ?_ | refine x_normal_block ?_
    exact ⟨k + 1, hlt, by (try simp only); omega, low_mk (Nat.le_of_ble_eq_true rfl) ⟨⟨rfl, rfl⟩, ⟨rfl, rfl⟩, ⟨rfl, rfl⟩, trivial⟩ ⟨⟨rfl, blt_lt rfl, trk_low _ _ _ _ rfl⟩, trivial⟩⟩
theorem eqItemSS_ok (l : List (List Itm)) (hw : wL (wL wItm) l ≤ 1048576) : PFun X 119 [.d (.im (l.map eItms)), .d (.im (l.map eItms))] (vb true) := by
  have ht : (!true) = false := rfl
  simp only [wL] at hw
  have e0 : decide ((l.length : Int) ≠ (l.length : Int)) = false := decide_eq_false (fun h => h rfl)
  refine pfun_of Tryd.func119 rfl (by decide) Tryd.ntmps119 Tryd.results119 (by simp) rfl rfl ?_
  repeat' first
    | refine Z1 ?_ | refine Z2 ?_ | refine Z5 ?_ | refine Zd ?_ | refine Zo ?_ | refine ok_seq ?_ | refine Zq ?_ | refine ok_block ?_ | refine ok_skip ?_ | refine x_normal_then ?_
  refine ok_for (ι := Nat) (fun x => envL [(0, .d (.im (l.map eItms))), (1, .d (.im (l.map eItms))), (4, vb false), (5, vi x)]) (fun x => stL []) (fun x => x ≤ l.length) (fun x => l.length - x) 0 (Nat.zero_le _) (weak_mk rfl ⟨.refl _, .refl _, .refl _, .refl _, trivial⟩ trivial) (fun _ => Nat.le_refl 0) ?_
  intro k i1
  rcases hx : l[k]? with _ | x
  · have hle := none_le hx
    have ek : decide ((k : Int) < (l.length : Int)) = false := decide_eq_false (by omega)
    repeat' first
      | refine Z1 ?_ | refine Z2 ?_ | refine Z5 ?_ | refine Zd ?_ | refine Zo ?_ | refine ok_seq ?_ | refine Zq ?_ | refine ok_exit ?_ | refine ok_ret ?_ | refine x_normal_then ?_ | refine x_exit_here ?_ | refine Zv ?_ | refine Zt ?_
    rfl
  · obtain ⟨hdr, hlt⟩ := drop_some hx
    have hwx := wL_mem (w := wL wItm) (List.mem_of_getElem? hx)
    have ek : decide ((k : Int) < (l.length : Int)) = true := decide_eq_true (by omega)
    repeat' first
      | refine Z1 ?_ | refine Z2 ?_ | refine Z5 ?_ | refine Zd ?_ | refine Zf ?_ | refine Zw ?_ | refine Zx ?_ | refine Zz (Zc (eqItemS_ok x (by first | omega | (simp only [wL]; omega))) ⟨rfl, rfl⟩) ?_ | refine Zz (Ze ⟨rfl, rfl⟩) ?_
      | refine Zo ?_ | refine ok_seq ?_ | refine ok_reg ?_ | refine ok_draw X_mixed (by decide +kernel) ?_ | refine Zp ?_ | refine Zq ?_ | refine ok_block ?_ | refine ok_skip ?_ | refine x_normal_then ?_ | refine x_normal_block ?_
    exact ⟨k + 1, hlt, by (try simp only); omega, low_mk (Nat.zero_le _) ⟨⟨rfl, rfl⟩, ⟨rfl, rfl⟩, ⟨rfl, rfl⟩, ⟨rfl, rfl⟩, trivial⟩ trivial⟩

theorem toVar_ok (x : Vr) (hw : wVr x ≤ 1048576) : PFun X 97 [.agg ((eVr x).map .d)] (.agg ((eVr x).map .d)) := by
  simp only [wVr, wL] at hw
  refine pfun_of Tryd.func97 rfl (by decide) Tryd.ntmps97 Tryd.results97 (by simp) rfl rfl ?_
  repeat' first
    | refine Z1 ?_ | refine Z2 ?_ | refine Z5 ?_ | refine Zc (toCondS_ok x.clock (by simp only [wL]; omega)) ?_ | refine Zo ?_ | refine ok_ret ?_ | refine Zu ?_
  rfl
theorem eqVar_ok (x : Vr) (hw : wVr x ≤ 1048576) : PFun X 101 [.agg ((eVr x).map .d), .agg ((eVr x).map .d)] (vb true) := by
  simp only [wVr, wL] at hw
  have ht : (!true) = false := rfl
  have e0 : decide (x.name ≠ x.name) = false := decide_eq_false (fun h => h rfl)
  have e1 : decide (x.type ≠ x.type) = false := decide_eq_false (fun h => h rfl)
  refine pfun_of Tryd.func101 rfl (by decide) Tryd.ntmps101 Tryd.results101 (by simp) rfl rfl ?_
  repeat' first
    | refine Z1 ?_ | refine Z2 ?_ | refine Z5 ?_ | refine Zc (eqCondS_ok x.clock (by first | omega | (simp only [wL]; omega))) ?_ | refine Zo ?_ | refine ok_seq ?_ | refine Zq ?_ | refine ok_skip ?_ | refine ok_ret ?_ | refine x_normal_then ?_
    | refine Zt ?_
  rfl

theorem toVarS_ok (l : List (Vr)) (hw : wL (wVr) l ≤ 1048576) : PFun X 73 [.d (.im (l.map eVr))] (.d (.im (l.map eVr))) := by
  simp only [wL] at hw
  refine pfun_of Tryd.func73 rfl (by decide) Tryd.ntmps73 Tryd.results73 (by simp) rfl rfl ?_
  repeat' first
    | refine Z1 ?_ | refine Z2 ?_ | refine Z5 ?_ | refine op_make (k := l.length) rfl rfl (by omega) rfl rfl rfl rfl rfl rfl ?_ | refine Zd ?_ | refine Zo ?_ | refine ok_seq ?_ | refine ok_block ?_
  refine ok_for (ι := Nat) (fun x => envL [(0, .d (.im (l.map eVr))), (3, .sl 0 0 0 l.length), (4, vi x)]) (fun x => stL [some (.row 0 56 3 (trk eVr l x [.d (.s (.string .empty)), .d (.s (.int .i64 0)), .d (.s (.slice none 0 0))]))]) (fun x => x ≤ l.length) (fun x => l.length - x) 0 (Nat.zero_le _) (weak_mk rfl ⟨.refl _, .refl _, .refl _, trivial⟩ ⟨⟨rfl, _, rfl, rfl, rfl, rfl, rfl⟩, trivial⟩) (fun _ => Nat.le_refl 1) ?_
  intro k i1
  rcases hx : l[k]? with _ | x
  · have hle := none_le hx
    have ek : decide ((k : Int) < (l.length : Int)) = false := decide_eq_false (by omega)
    repeat' first
      | refine Z1 ?_ | refine Z2 ?_ | refine Z5 ?_ | refine Zd ?_ | refine fz_rows (trk_all hle) 2 rfl rfl rfl ?_ | refine Zo ?_ | refine ok_seq ?_ | refine Zq ?_ | refine ok_exit ?_ | refine ok_ret ?_ | refine x_normal_then ?_
      | refine x_exit_here ?_ | refine Zv ?_ | refine Zt ?_
    rfl
  · obtain ⟨hdr, hlt⟩ := drop_some hx
    have hwx := wL_mem (w := wVr) (List.mem_of_getElem? hx)
    have ek : decide ((k : Int) < (l.length : Int)) = true := decide_eq_true (by omega)
    repeat' first
      | refine Z1 ?_ | refine Z2 ?_ | refine Z3 ?_ | refine Z5 ?_ | refine op_place rfl rfl hlt rfl rfl rfl rfl ?_ | refine op_putk hx rfl rfl rfl rfl rfl rfl rfl rfl ?_ | refine Zc (toVar_ok x (by omega)) ?_ | refine Zd ?_ | refine Ze ?_
      | refine Zf ?_ | refine Zo ?_ | refine ok_seq ?_ | refine ok_reg ?_ | refine Zp ?_ | refine ok_block ?_ | refine ok_skip ?_ | refine x_normal_then ?_ | refine x_normal_block ?_
    exact ⟨k + 1, hlt, by (try simp only); omega, low_mk (Nat.le_of_ble_eq_true rfl) ⟨⟨rfl, rfl⟩, ⟨rfl, rfl⟩, ⟨rfl, rfl⟩, trivial⟩ ⟨⟨rfl, blt_lt rfl, trk_low _ _ _ _ rfl⟩, trivial⟩⟩
theorem eqVarS_ok (l : List (Vr)) (hw : wL (wVr) l ≤ 1048576) : PFun X 82 [.d (.im (l.map eVr)), .d (.im (l.map eVr))] (vb true) := by
  have ht : (!true) = false := rfl
  simp only [wL] at hw
  have e0 : decide ((l.length : Int) ≠ (l.length : Int)) = false := decide_eq_false (fun h => h rfl)
  refine pfun_of Tryd.func82 rfl (by decide) Tryd.ntmps82 Tryd.results82 (by simp) rfl rfl ?_
  repeat' first
    | refine Z1 ?_ | refine Z2 ?_ | refine Z5 ?_ | refine Zd ?_ | refine Zo ?_ | refine ok_seq ?_ | refine Zq ?_ | refine ok_block ?_ | refine ok_skip ?_ | refine x_normal_then ?_
  refine ok_for (ι := Nat) (fun x => envL [(0, .d (.im (l.map eVr))), (1, .d (.im (l.map eVr))), (4, vb false), (5, vi x)]) (fun x => stL []) (fun x => x ≤ l.length) (fun x => l.length - x) 0 (Nat.zero_le _) (weak_mk rfl ⟨.refl _, .refl _, .refl _, .refl _, trivial⟩ trivial) (fun _ => Nat.le_refl 0) ?_
  intro k i1
  rcases hx : l[k]? with _ | x
  · have hle := none_le hx
    have ek : decide ((k : Int) < (l.length : Int)) = false := decide_eq_false (by omega)
    repeat' first
      | refine Z1 ?_ | refine Z2 ?_ | refine Z5 ?_ | refine Zd ?_ | refine Zo ?_ | refine ok_seq ?_ | refine Zq ?_ | refine ok_exit ?_ | refine ok_ret ?_ | refine x_normal_then ?_ | refine x_exit_here ?_ | refine Zv ?_ | refine Zt ?_
    rfl
  · obtain ⟨hdr, hlt⟩ := drop_some hx
    have hwx := wL_mem (w := wVr) (List.mem_of_getElem? hx)
    have ek : decide ((k : Int) < (l.length : Int)) = true := decide_eq_true (by omega)
    repeat' first
      | refine Z1 ?_ | refine Z2 ?_ | refine Z5 ?_ | refine Zd ?_ | refine Zf ?_ | refine Zw ?_ | refine Zx ?_ | refine Zz (Zc (eqVar_ok x (by omega)) ⟨rfl, rfl⟩) ?_ | refine Zz (Ze ⟨rfl, rfl⟩) ?_ | refine Zo ?_ | refine ok_seq ?_
      | refine ok_reg ?_ | refine ok_draw X_mixed (by decide +kernel) ?_ | refine Zp ?_ | refine Zq ?_ | refine ok_block ?_ | refine ok_skip ?_ | refine x_normal_then ?_ | refine x_normal_block ?_
    exact ⟨k + 1, hlt, by (try simp only); omega, low_mk (Nat.zero_le _) ⟨⟨rfl, rfl⟩, ⟨rfl, rfl⟩, ⟨rfl, rfl⟩, ⟨rfl, rfl⟩, trivial⟩ trivial⟩

theorem toEquation_ok (x : Eqn) (hw : wEqn x ≤ 1048576) : PFun X 98 [.agg ((eEqn x).map .d)] (.agg ((eEqn x).map .d)) := by
  simp only [wEqn, wL] at hw
  refine pfun_of Tryd.func98 rfl (by decide) Tryd.ntmps98 Tryd.results98 (by simp) rfl rfl ?_
  repeat' first
    | refine Z1 ?_ | refine Z2 ?_ | refine Z5 ?_ | refine Zc (toStringS_ok x.lhs (by simp only [wL]; omega)) ?_ | refine Zc (toItemS_ok x.code (by simp only [wL]; omega)) ?_ | refine Zc (toItemSS_ok x.args (by simp only [wL]; omega)) ?_
    | refine Zo ?_ | refine ok_ret ?_ | refine Zu ?_
  rfl
theorem eqEquation_ok (x : Eqn) (hw : wEqn x ≤ 1048576) : PFun X 102 [.agg ((eEqn x).map .d), .agg ((eEqn x).map .d)] (vb true) := by
  simp only [wEqn, wL] at hw
  have ht : (!true) = false := rfl
  have e0 : decide (x.call ≠ x.call) = false := decide_eq_false (fun h => h rfl)
  refine pfun_of Tryd.func102 rfl (by decide) Tryd.ntmps102 Tryd.results102 (by simp) rfl rfl ?_
  repeat' first
    | refine Z1 ?_ | refine Z2 ?_ | refine Z5 ?_ | refine Zc (eqStringS_ok x.lhs (by first | omega | (simp only [wL]; omega))) ?_ | refine Zc (eqItemS_ok x.code (by first | omega | (simp only [wL]; omega))) ?_
    | refine Zc (eqItemSS_ok x.args (by first | omega | (simp only [wL]; omega))) ?_ | refine Zo ?_ | refine ok_seq ?_ | refine Zq ?_ | refine ok_skip ?_ | refine ok_ret ?_ | refine x_normal_then ?_ | refine Zt ?_
  rfl

theorem toEquationS_ok (l : List (Eqn)) (hw : wL (wEqn) l ≤ 1048576) : PFun X 74 [.d (.im (l.map eEqn))] (.d (.im (l.map eEqn))) := by
  simp only [wL] at hw
  refine pfun_of Tryd.func74 rfl (by decide) Tryd.ntmps74 Tryd.results74 (by simp) rfl rfl ?_
  repeat' first
    | refine Z1 ?_ | refine Z2 ?_ | refine Z5 ?_ | refine op_make (k := l.length) rfl rfl (by omega) rfl rfl rfl rfl rfl rfl ?_ | refine Zd ?_ | refine Zo ?_ | refine ok_seq ?_ | refine ok_block ?_
  refine ok_for (ι := Nat) (fun x => envL [(0, .d (.im (l.map eEqn))), (3, .sl 0 0 0 l.length), (4, vi x)]) (fun x => stL [some (.row 0 47 4 (trk eEqn l x [.d (.s (.slice none 0 0)), .d (.s (.slice none 0 0)), .d (.s (.string .empty)), .d (.s (.slice none 0 0))]))]) (fun x => x ≤ l.length) (fun x => l.length - x) 0 (Nat.zero_le _) (weak_mk rfl ⟨.refl _, .refl _, .refl _, trivial⟩ ⟨⟨rfl, _, rfl, rfl, rfl, rfl, rfl⟩, trivial⟩) (fun _ => Nat.le_refl 1) ?_
  intro k i1
  rcases hx : l[k]? with _ | x
  · have hle := none_le hx
    have ek : decide ((k : Int) < (l.length : Int)) = false := decide_eq_false (by omega)
    repeat' first
      | refine Z1 ?_ | refine Z2 ?_ | refine Z5 ?_ | refine Zd ?_ | refine fz_rows (trk_all hle) 2 rfl rfl rfl ?_ | refine Zo ?_ | refine ok_seq ?_ | refine Zq ?_ | refine ok_exit ?_ | refine ok_ret ?_ | refine x_normal_then ?_
      | refine x_exit_here ?_ | refine Zv ?_ | refine Zt ?_
    rfl
  · obtain ⟨hdr, hlt⟩ := drop_some hx
    have hwx := wL_mem (w := wEqn) (List.mem_of_getElem? hx)
    have ek : decide ((k : Int) < (l.length : Int)) = true := decide_eq_true (by omega)
    repeat' first
      | refine Z1 ?_ | refine Z2 ?_ | refine Z3 ?_ | refine Z5 ?_ | refine op_place rfl rfl hlt rfl rfl rfl rfl ?_ | refine op_putk hx rfl rfl rfl rfl rfl rfl rfl rfl ?_ | refine Zc (toEquation_ok x (by omega)) ?_ | refine Zd ?_ | refine Ze ?_
      | refine Zf ?_ | refine Zo ?_ | refine ok_seq ?_ | refine ok_reg ?_ | refine Zp ?_ | refine ok_block ?_ | refine ok_skip ?_ | refine x_normal_then ?_ | refine x_normal_block ?_
    exact ⟨k + 1, hlt, by (try simp only); omega, low_mk (Nat.le_of_ble_eq_true rfl) ⟨⟨rfl, rfl⟩, ⟨rfl, rfl⟩, ⟨rfl, rfl⟩, trivial⟩ ⟨⟨rfl, blt_lt rfl, trk_low _ _ _ _ rfl⟩, trivial⟩⟩
theorem eqEquationS_ok (l : List (Eqn)) (hw : wL (wEqn) l ≤ 1048576) : PFun X 83 [.d (.im (l.map eEqn)), .d (.im (l.map eEqn))] (vb true) := by
  have ht : (!true) = false := rfl
  simp only [wL] at hw
  have e0 : decide ((l.length : Int) ≠ (l.length : Int)) = false := decide_eq_false (fun h => h rfl)
  refine pfun_of Tryd.func83 rfl (by decide) Tryd.ntmps83 Tryd.results83 (by simp) rfl rfl ?_
  repeat' first
    | refine Z1 ?_ | refine Z2 ?_ | refine Z5 ?_ | refine Zd ?_ | refine Zo ?_ | refine ok_seq ?_ | refine Zq ?_ | refine ok_block ?_ | refine ok_skip ?_ | refine x_normal_then ?_
  refine ok_for (ι := Nat) (fun x => envL [(0, .d (.im (l.map eEqn))), (1, .d (.im (l.map eEqn))), (4, vb false), (5, vi x)]) (fun x => stL []) (fun x => x ≤ l.length) (fun x => l.length - x) 0 (Nat.zero_le _) (weak_mk rfl ⟨.refl _, .refl _, .refl _, .refl _, trivial⟩ trivial) (fun _ => Nat.le_refl 0) ?_
  intro k i1
  rcases hx : l[k]? with _ | x
  · have hle := none_le hx
    have ek : decide ((k : Int) < (l.length : Int)) = false := decide_eq_false (by omega)
    repeat' first
      | refine Z1 ?_ | refine Z2 ?_ | refine Z5 ?_ | refine Zd ?_ | refine Zo ?_ | refine ok_seq ?_ | refine Zq ?_ | refine ok_exit ?_ | refine ok_ret ?_ | refine x_normal_then ?_ | refine x_exit_here ?_ | refine Zv ?_ | refine Zt ?_
    rfl
  · obtain ⟨hdr, hlt⟩ := drop_some hx
    have hwx := wL_mem (w := wEqn) (List.mem_of_getElem? hx)
    have ek : decide ((k : Int) < (l.length : Int)) = true := decide_eq_true (by omega)
    repeat' first
      | refine Z1 ?_ | refine Z2 ?_ | refine Z5 ?_ | refine Zd ?_ | refine Zf ?_ | refine Zw ?_ | refine Zx ?_ | refine Zz (Zc (eqEquation_ok x (by omega)) ⟨rfl, rfl⟩) ?_ | refine Zz (Ze ⟨rfl, rfl⟩) ?_ | refine Zo ?_ | refine ok_seq ?_
      | refine ok_reg ?_ | refine ok_draw X_mixed (by decide +kernel) ?_ | refine Zp ?_ | refine Zq ?_ | refine ok_block ?_ | refine ok_skip ?_ | refine x_normal_then ?_ | refine x_normal_block ?_
    exact ⟨k + 1, hlt, by (try simp only); omega, low_mk (Nat.zero_le _) ⟨⟨rfl, rfl⟩, ⟨rfl, rfl⟩, ⟨rfl, rfl⟩, ⟨rfl, rfl⟩, trivial⟩ trivial⟩

theorem toNode_ok (x : Nod) (hw : wNod x ≤ 1048576) : PFun X 45 [.agg ((eNod x).map .d)] (.agg ((eNod x).map .d)) := by
  simp only [wNod, wL] at hw
  refine pfun_of Tryd.func45 rfl (by decide) Tryd.ntmps45 Tryd.results45 (by simp) rfl rfl ?_
  repeat' first
    | refine Z1 ?_ | refine Z2 ?_ | refine Z5 ?_ | refine Zc (toVarS_ok x.ins (by simp only [wL]; omega)) ?_ | refine Zc (toVarS_ok x.outs (by simp only [wL]; omega)) ?_ | refine Zc (toVarS_ok x.vars (by simp only [wL]; omega)) ?_
    | refine Zc (toEquationS_ok x.eqs (by simp only [wL]; omega)) ?_ | refine Zo ?_ | refine ok_ret ?_ | refine Zu ?_
  rfl
theorem eqNode_ok (x : Nod) (hw : wNod x ≤ 1048576) : PFun X 53 [.agg ((eNod x).map .d), .agg ((eNod x).map .d)] (vb true) := by
  simp only [wNod, wL] at hw
  have ht : (!true) = false := rfl
  have e0 : decide (x.name ≠ x.name) = false := decide_eq_false (fun h => h rfl)
  refine pfun_of Tryd.func53 rfl (by decide) Tryd.ntmps53 Tryd.results53 (by simp) rfl rfl ?_
  repeat' first
    | refine Z1 ?_ | refine Z2 ?_ | refine Z5 ?_ | refine Zc (eqVarS_ok x.ins (by first | omega | (simp only [wL]; omega))) ?_ | refine Zc (eqVarS_ok x.outs (by first | omega | (simp only [wL]; omega))) ?_
    | refine Zc (eqVarS_ok x.vars (by first | omega | (simp only [wL]; omega))) ?_ | refine Zc (eqEquationS_ok x.eqs (by first | omega | (simp only [wL]; omega))) ?_ | refine Zo ?_ | refine ok_seq ?_ | refine Zq ?_ | refine ok_skip ?_
    | refine ok_ret ?_ | refine x_normal_then ?_ | refine Zt ?_
  rfl

theorem toNodeS_ok (l : List (Nod)) (hw : wL (wNod) l ≤ 1048576) : PFun X 17 [.d (.im (l.map eNod))] (.d (.im (l.map eNod))) := by
  simp only [wL] at hw
  refine pfun_of Tryd.func17 rfl (by decide) Tryd.ntmps17 Tryd.results17 (by simp) rfl rfl ?_
  repeat' first
    | refine Z1 ?_ | refine Z2 ?_ | refine Z5 ?_ | refine op_make (k := l.length) rfl rfl (by omega) rfl rfl rfl rfl rfl rfl ?_ | refine Zd ?_ | refine Zo ?_ | refine ok_seq ?_ | refine ok_block ?_
  refine ok_for (ι := Nat) (fun x => envL [(0, .d (.im (l.map eNod))), (3, .sl 0 0 0 l.length), (4, vi x)]) (fun x => stL [some (.row 0 40 5 (trk eNod l x [.d (.s (.string .empty)), .d (.s (.slice none 0 0)), .d (.s (.slice none 0 0)), .d (.s (.slice none 0 0)), .d (.s (.slice none 0 0))]))]) (fun x => x ≤ l.length) (fun x => l.length - x) 0 (Nat.zero_le _) (weak_mk rfl ⟨.refl _, .refl _, .refl _, trivial⟩ ⟨⟨rfl, _, rfl, rfl, rfl, rfl, rfl⟩, trivial⟩) (fun _ => Nat.le_refl 1) ?_
  intro k i1
  rcases hx : l[k]? with _ | x
  · have hle := none_le hx
    have ek : decide ((k : Int) < (l.length : Int)) = false := decide_eq_false (by omega)
    repeat' first
      | refine Z1 ?_ | refine Z2 ?_ | refine Z5 ?_ | refine Zd ?_ | refine fz_rows (trk_all hle) 2 rfl rfl rfl ?_ | refine Zo ?_ | refine ok_seq ?_ | refine Zq ?_ | refine ok_exit ?_ | refine ok_ret ?_ | refine x_normal_then ?_
      | refine x_exit_here ?_ | refine Zv ?_ | refine Zt ?_
    rfl
  · obtain ⟨hdr, hlt⟩ := drop_some hx
    have hwx := wL_mem (w := wNod) (List.mem_of_getElem? hx)
    have ek : decide ((k : Int) < (l.length : Int)) = true := decide_eq_true (by omega)
    repeat' first
      | refine Z1 ?_ | refine Z2 ?_ | refine Z3 ?_ | refine Z5 ?_ | refine op_place rfl rfl hlt rfl rfl rfl rfl ?_ | refine op_putk hx rfl rfl rfl rfl rfl rfl rfl rfl ?_ | refine Zc (toNode_ok x (by omega)) ?_ | refine Zd ?_ | refine Ze ?_
      | refine Zf ?_ | refine Zo ?_ | refine ok_seq ?_ | refine ok_reg ?_ | refine Zp ?_ | refine ok_block ?_ | refine ok_skip ?_ | refine x_normal_then ?_ | refine x_normal_block ?_
    exact ⟨k + 1, hlt, by (try simp only); omega, low_mk (Nat.le_of_ble_eq_true rfl) ⟨⟨rfl, rfl⟩, ⟨rfl, rfl⟩, ⟨rfl, rfl⟩, trivial⟩ ⟨⟨rfl, blt_lt rfl, trk_low _ _ _ _ rfl⟩, trivial⟩⟩
theorem eqNodeS_ok (l : List (Nod)) (hw : wL (wNod) l ≤ 1048576) : PFun X 25 [.d (.im (l.map eNod)), .d (.im (l.map eNod))] (vb true) := by
  have ht : (!true) = false := rfl
  simp only [wL] at hw
  have e0 : decide ((l.length : Int) ≠ (l.length : Int)) = false := decide_eq_false (fun h => h rfl)
  refine pfun_of Tryd.func25 rfl (by decide) Tryd.ntmps25 Tryd.results25 (by simp) rfl rfl ?_
  repeat' first
    | refine Z1 ?_ | refine Z2 ?_ | refine Z5 ?_ | refine Zd ?_ | refine Zo ?_ | refine ok_seq ?_ | refine Zq ?_ | refine ok_block ?_ | refine ok_skip ?_ | refine x_normal_then ?_
  refine ok_for (ι := Nat) (fun x => envL [(0, .d (.im (l.map eNod))), (1, .d (.im (l.map eNod))), (4, vb false), (5, vi x)]) (fun x => stL []) (fun x => x ≤ l.length) (fun x => l.length - x) 0 (Nat.zero_le _) (weak_mk rfl ⟨.refl _, .refl _, .refl _, .refl _, trivial⟩ trivial) (fun _ => Nat.le_refl 0) ?_
  intro k i1
  rcases hx : l[k]? with _ | x
  · have hle := none_le hx
    have ek : decide ((k : Int) < (l.length : Int)) = false := decide_eq_false (by omega)
    repeat' first
      | refine Z1 ?_ | refine Z2 ?_ | refine Z5 ?_ | refine Zd ?_ | refine Zo ?_ | refine ok_seq ?_ | refine Zq ?_ | refine ok_exit ?_ | refine ok_ret ?_ | refine x_normal_then ?_ | refine x_exit_here ?_ | refine Zv ?_ | refine Zt ?_
    rfl
  · obtain ⟨hdr, hlt⟩ := drop_some hx
    have hwx := wL_mem (w := wNod) (List.mem_of_getElem? hx)
    have ek : decide ((k : Int) < (l.length : Int)) = true := decide_eq_true (by omega)
    repeat' first
      | refine Z1 ?_ | refine Z2 ?_ | refine Z5 ?_ | refine Zd ?_ | refine Zf ?_ | refine Zw ?_ | refine Zx ?_ | refine Zz (Zc (eqNode_ok x (by omega)) ⟨rfl, rfl⟩) ?_ | refine Zz (Ze ⟨rfl, rfl⟩) ?_ | refine Zo ?_ | refine ok_seq ?_
      | refine ok_reg ?_ | refine ok_draw X_mixed (by decide +kernel) ?_ | refine Zp ?_ | refine Zq ?_ | refine ok_block ?_ | refine ok_skip ?_ | refine x_normal_then ?_ | refine x_normal_block ?_
    exact ⟨k + 1, hlt, by (try simp only); omega, low_mk (Nat.zero_le _) ⟨⟨rfl, rfl⟩, ⟨rfl, rfl⟩, ⟨rfl, rfl⟩, ⟨rfl, rfl⟩, trivial⟩ trivial⟩

theorem toProgram_ok (l : List Nod) (hw : wL wNod l ≤ 1048576) : PFun X 7 [.agg [.d (.im (l.map eNod))]] (.agg [.d (.im (l.map eNod))]) := by
  refine pfun_of Tryd.func7 rfl (by decide) Tryd.ntmps7 Tryd.results7 (by simp) rfl rfl ?_
  repeat' first
    | refine Z1 ?_ | refine Z2 ?_ | refine Z5 ?_ | refine Zc (toNodeS_ok l hw) ?_ | refine Zo ?_ | refine ok_ret ?_ | refine Zu ?_
  rfl
theorem eqProgram_ok (l : List Nod) (hw : wL wNod l ≤ 1048576) : PFun X 9 [.agg [.d (.im (l.map eNod))], .agg [.d (.im (l.map eNod))]] (vb true) := by
  have ht : (!true) = false := rfl
  refine pfun_of Tryd.func9 rfl (by decide) Tryd.ntmps9 Tryd.results9 (by simp) rfl rfl ?_
  repeat' first
    | refine Z1 ?_ | refine Z2 ?_ | refine Z5 ?_ | refine Zc (eqNodeS_ok l hw) ?_ | refine Zo ?_ | refine ok_seq ?_ | refine Zq ?_ | refine ok_skip ?_ | refine ok_ret ?_ | refine x_normal_then ?_ | refine Zt ?_
  rfl

end Go.Pm
