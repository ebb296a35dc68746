/- Library functions of this seat: their closures, for the kit's contracts; strconv.Itoa. -/
import Derived.Test.YtaabemmnjhgbgaaGreatDoorB1
import Derived.Shelf.Strconv.Itoa3
import Derived.Shelf.Strings.Builder1
import Derived.Test.YtaabemmnjhgbgaaGreatDoorA4
set_option linter.unusedVariables false
namespace Go.Pm
open Go.Proofs Go.Shelf
def rhoF : List (Nat × Nat) := [(129, 105), (169, 30), (171, 28), (240, 57), (243, 58), (246, 81), (276, 80), (283, 94), (284, 95), (285, 96), (286, 97), (317, 104), (318, 106), (319, 107), (320, 108), (337, 111), (338, 112)]
def rhoT : List (Nat × Nat) := [(0, 0), (2, 2), (3, 3), (4, 4), (5, 5), (9, 9), (20, 20), (37, 49), (46, 168), (51, 166), (53, 153), (70, 65), (72, 67), (127, 114), (164, 139), (171, 152), (173, 156), (212, 165), (213, 167), (232, 172), (233, 173)]
def rhoG : List (Nat × Nat) := [(17, 2), (18, 3), (19, 4)]
def rhoA (l : List (Nat × Nat)) (n : Nat) : Nat := match l.find? (fun y => y.1 == n) with | some y => y.2 | none => 0
def rho : Shelf.Ren := ⟨rhoA rhoF, rhoA rhoT, rhoA rhoG⟩
theorem lay_LaysM_n171b : Lays.n171 Tryz.prog rho := {
  mixed := by kernel_rfl,
  f129 := by kernel_rfl,
  f171 := by kernel_rfl,
  f243 := by kernel_rfl,
  f246 := by kernel_rfl,
  f283 := by kernel_rfl,
  f284 := by kernel_rfl,
  f285 := by kernel_rfl,
  f286 := by kernel_rfl,
  f317 := by kernel_rfl,
  f318 := by kernel_rfl,
  f319 := by kernel_rfl,
  f320 := by kernel_rfl,
  f337 := by kernel_rfl,
  f338 := by kernel_rfl,
  t0 := by kernel_rfl,
  a0 := fun w => by kernel_rfl,
  z0 := fun w => by kernel_rfl,
  v0 := fun w => by kernel_rfl,
  t2 := by kernel_rfl,
  a2 := fun w => by kernel_rfl,
  z2 := fun w => by kernel_rfl,
  v2 := fun w => by kernel_rfl,
  t3 := by kernel_rfl,
  a3 := fun w => by kernel_rfl,
  z3 := fun w => by kernel_rfl,
  v3 := fun w => by kernel_rfl,
  t4 := by kernel_rfl,
  a4 := fun w => by kernel_rfl,
  z4 := fun w => by kernel_rfl,
  v4 := fun w => by kernel_rfl,
  t5 := by kernel_rfl,
  a5 := fun w => by kernel_rfl,
  z5 := fun w => by kernel_rfl,
  v5 := fun w => by kernel_rfl,
  t9 := by kernel_rfl,
  a9 := fun w => by kernel_rfl,
  z9 := fun w => by kernel_rfl,
  v9 := fun w => by kernel_rfl,
  t20 := by kernel_rfl,
  a20 := fun w => by kernel_rfl,
  z20 := fun w => by kernel_rfl,
  v20 := fun w => by kernel_rfl,
  t37 := by kernel_rfl,
  a37 := fun w => by kernel_rfl,
  z37 := fun w => by kernel_rfl,
  v37 := fun w => by kernel_rfl,
  t46 := by kernel_rfl,
  a46 := fun w => by kernel_rfl,
  z46 := fun w => by kernel_rfl,
  v46 := fun w => by kernel_rfl,
  t51 := by kernel_rfl,
  a51 := fun w => by kernel_rfl,
  z51 := fun w => by kernel_rfl,
  v51 := fun w => by kernel_rfl,
  t53 := by kernel_rfl,
  a53 := fun w => by kernel_rfl,
  z53 := fun w => by kernel_rfl,
  v53 := fun w => by kernel_rfl,
  t171 := by kernel_rfl,
  a171 := fun w => by kernel_rfl,
  z171 := fun w => by kernel_rfl,
  v171 := fun w => by kernel_rfl,
  t173 := by kernel_rfl,
  a173 := fun w => by kernel_rfl,
  z173 := fun w => by kernel_rfl,
  v173 := fun w => by kernel_rfl,
  t212 := by kernel_rfl,
  a212 := fun w => by kernel_rfl,
  z212 := fun w => by kernel_rfl,
  v212 := fun w => by kernel_rfl,
  t213 := by kernel_rfl,
  a213 := fun w => by kernel_rfl,
  z213 := fun w => by kernel_rfl,
  t232 := by kernel_rfl,
  a232 := fun w => by kernel_rfl,
  z232 := fun w => by kernel_rfl,
  v232 := fun w => by kernel_rfl,
  t233 := by kernel_rfl,
  a233 := fun w => by kernel_rfl,
  z233 := fun w => by kernel_rfl,
  v233 := fun w => by kernel_rfl,
  g17 := by kernel_rfl,
  g18 := by kernel_rfl,
  g19 := by kernel_rfl }
theorem lay_LaysM_n171 : LaysM.n171 Tryz.prog rho := { lay_LaysM_n171b with
  i0 := by kernel_rfl,
  i2 := by kernel_rfl,
  i3 := by kernel_rfl,
  i4 := by kernel_rfl,
  i5 := by kernel_rfl,
  i9 := by kernel_rfl,
  i20 := by kernel_rfl,
  i37 := by kernel_rfl,
  i46 := by kernel_rfl,
  i51 := by kernel_rfl,
  i53 := by kernel_rfl,
  i171 := by kernel_rfl,
  i173 := by kernel_rfl,
  i212 := by kernel_rfl,
  i232 := by kernel_rfl,
  i233 := by kernel_rfl,
  m17 := by kernel_rfl,
  m18 := by kernel_rfl,
  m19 := by kernel_rfl }
theorem lay_Lays_n240 : Lays.n240 Tryz.prog rho := {
  mixed := by kernel_rfl,
  f240 := by kernel_rfl,
  f276 := by kernel_rfl,
  t0 := by kernel_rfl,
  a0 := fun w => by kernel_rfl,
  z0 := fun w => by kernel_rfl,
  v0 := fun w => by kernel_rfl,
  t4 := by kernel_rfl,
  a4 := fun w => by kernel_rfl,
  z4 := fun w => by kernel_rfl,
  v4 := fun w => by kernel_rfl,
  t9 := by kernel_rfl,
  a9 := fun w => by kernel_rfl,
  z9 := fun w => by kernel_rfl,
  v9 := fun w => by kernel_rfl,
  t20 := by kernel_rfl,
  a20 := fun w => by kernel_rfl,
  z20 := fun w => by kernel_rfl,
  v20 := fun w => by kernel_rfl,
  t70 := by kernel_rfl,
  a70 := fun w => by kernel_rfl,
  z70 := fun w => by kernel_rfl,
  v70 := fun w => by kernel_rfl,
  t72 := by kernel_rfl,
  a72 := fun w => by kernel_rfl,
  z72 := fun w => by kernel_rfl,
  v72 := fun w => by kernel_rfl,
  t164 := by kernel_rfl,
  a164 := fun w => by kernel_rfl,
  z164 := fun w => by kernel_rfl,
  v164 := fun w => by kernel_rfl }
theorem lay_Lays_n169 : Lays.n169 Tryz.prog rho := {
  mixed := by kernel_rfl,
  f169 := by kernel_rfl,
  t0 := by kernel_rfl,
  a0 := fun w => by kernel_rfl,
  z0 := fun w => by kernel_rfl,
  v0 := fun w => by kernel_rfl,
  t3 := by kernel_rfl,
  a3 := fun w => by kernel_rfl,
  z3 := fun w => by kernel_rfl,
  v3 := fun w => by kernel_rfl,
  t9 := by kernel_rfl,
  a9 := fun w => by kernel_rfl,
  z9 := fun w => by kernel_rfl,
  v9 := fun w => by kernel_rfl,
  t37 := by kernel_rfl,
  a37 := fun w => by kernel_rfl,
  z37 := fun w => by kernel_rfl,
  v37 := fun w => by kernel_rfl,
  t70 := by kernel_rfl,
  a70 := fun w => by kernel_rfl,
  z70 := fun w => by kernel_rfl,
  v70 := fun w => by kernel_rfl,
  t72 := by kernel_rfl,
  a72 := fun w => by kernel_rfl,
  z72 := fun w => by kernel_rfl,
  v72 := fun w => by kernel_rfl,
  t127 := by kernel_rfl,
  a127 := fun w => by kernel_rfl,
  z127 := fun w => by kernel_rfl,
  v127 := fun w => by kernel_rfl }
theorem itoa_calls (n : Int) (h0 : -9223372036854775808 ≤ n) (h1 : n ≤ 9223372036854775807) (w : World) (htab : Lib.TabIs Tryz.prog w "internal/strconv.uint64pow10" .u64 Lib.pow10Tab) : Calls Tryz.prog 28 #[.int .i64 n] w fun e w' => e = .returned (.string ⟨(Lib.itoa n).toArray⟩) ∧ ∃ k os, w' = Sort.grow (w.drewN k) os := Any.strconv_Itoa lay_LaysM_n171 n h0 h1 w htab
theorem bx72 : Builder.X72 Tryz.prog rho := { sizeBuilder := by kernel_rfl, liesBuilder := by kernel_rfl }
set_option maxHeartbeats 2000000 in
set_option maxRecDepth 100000 in
/-- The text of a builder that holds at least one byte: the bytes, and they are frozen. -/
theorem text_calls (b g cap : Nat) (p : Value) (T : TypeId) (fz : Nat × Nat) (cur : Array Value) (l : List UInt8) (w : World) (h0 : l ≠ []) (hb : w.heap[b]? = some (.cells #[p, .slice (some ⟨g, 0, none⟩) l.length cap] T fz)) (hg : w.heap[g]? = some (.cells cur 5 (0, 0)))
    (hc : l.length ≤ cap) (hm : cap ≤ maxLen) (hs : cur.size = cap) (hx : ∀ (j : Nat) (x : UInt8), l[j]? = some x → cur[j]? = some (Value.int .u8 x.toNat)) :
    Calls Tryz.prog 30 #[.pointer (some ⟨b, 0, none⟩)] w fun e w' => e = .returned (.string ⟨l.toArray⟩) ∧ w' = w.drew.freeze ⟨g, 0, none⟩ l.length := by
  have L := lay_Lays_n169
  have hl0 : l.length ≠ 0 := by simpa using h0
  have c1 : w.drew.cell? ⟨b, 1, none⟩ = some (.slice (some ⟨g, 0, none⟩) l.length cap) := by
    have h1 : w.drew.heap[b]? = some (.cells #[p, .slice (some ⟨g, 0, none⟩) l.length cap] T fz) := hb
    rw [Lib.cell_of_heap h1]; rfl
  have hSD : (Builtin.unsafeSliceData_ #[rho.t 37] (rho.t 127) #[.slice (some ⟨g, 0, none⟩) l.length cap]).run Tryz.prog w.drew = .ok (.pointer (some ⟨g, 0, none⟩)) w.drew := Lib.run_unsafeSliceData_row _ _ _ _ _ _ (by omega)
  have hUS : (Builtin.unsafeString_ #[rho.t 127, rho.t 3] (rho.t 9) #[.pointer (some ⟨g, 0, none⟩), .int .i64 l.length]).run Tryz.prog w.drew = .ok (.string ⟨l.toArray⟩) (w.drew.freeze ⟨g, 0, none⟩ l.length) := by
    refine Lib.run_unsafeString_row w.drew (rho.t 127) (rho.t 3) (rho.t 9) 5 L.t127 (by kernel_rfl) g cur.size (by have hg' : w.drew.heap[g]? = some (.cells cur 5 (0, 0)) := hg; simp [World.shape?, hg']) l h0 (by omega) (by unfold maxLen at hm; omega) ?_
    intro j x hj
    have h1 : w.drew.heap[g]? = some (.cells cur 5 (0, 0)) := hg
    rw [show ((⟨g, 0, none⟩ : Addr).add j) = ⟨g, j, none⟩ from (by simp [Addr.add]; intro h; exact h.symm), Lib.cell_of_heap h1]
    exact hx j x hj
  have mixed := L.mixed
  have t72 := L.t72; have a72 := L.a72; have z72 := L.z72; have v72 := L.v72; have u72 := run_underlying L.t72
  have t70 := L.t70; have a70 := L.a70; have z70 := L.z70; have v70 := L.v70; have u70 := run_underlying L.t70
  have t37 := L.t37; have a37 := L.a37; have z37 := L.z37; have v37 := L.v37; have u37 := run_underlying L.t37
  have t127 := L.t127; have a127 := L.a127; have z127 := L.z127; have v127 := L.v127; have u127 := run_underlying L.t127
  have t3 := L.t3; have a3 := L.a3; have z3 := L.z3; have v3 := L.v3; have u3 := run_underlying L.t3
  have t9 := L.t9; have a9 := L.a9; have z9 := L.z9; have v9 := L.v9; have u9 := run_underlying L.t9
  show Calls Tryz.prog (rho.f 169) _ _ _
  go_enter L.f169, Body.n169_ntmps rho
  go_wp2
  go_region_o
  all_goals (go_wp2; go_ret; exact ⟨rfl, rfl⟩)
theorem check_new (b : Nat) (w : World) (h0 : w.cell? ⟨b, 0, none⟩ = some (.pointer none)) (hsh : w.shape? b = some (67, 2)) (hfz : w.frozen? ⟨b, 0, none⟩ = false) :
    Calls Tryz.prog 57 #[.pointer (some ⟨b, 0, none⟩)] w fun e w' => e = .returned (.tuple #[]) ∧ w' = w.setCell ⟨b, 0, none⟩ (.pointer (some ⟨b, 0, none⟩)) := Any.Builder_copyCheck_fresh lay_Lays_n240 bx72 b w h0 hsh hfz
theorem check_used (b : Nat) (w : World) (h0 : w.cell? ⟨b, 0, none⟩ = some (.pointer (some ⟨b, 0, none⟩))) :
    Calls Tryz.prog 57 #[.pointer (some ⟨b, 0, none⟩)] w fun e w' => e = .returned (.tuple #[]) ∧ w' = w := Any.Builder_copyCheck_used lay_Lays_n240 bx72 b w h0
end Go.Pm
/- strings.Builder and strconv.Itoa, as the abstract machine sees them. -/
set_option linter.unusedVariables false
set_option linter.unusedSimpArgs false
namespace Go.Pm
open Go.Proofs
def bdFresh : AO := .iter (.cells #[.pointer none, .slice none 0 0] 67)
theorem callOk {f : Nat} {fn : Func} (hf : Tryz.prog.funcs[f]? = some fn) (hn : (fn.name == "runtime.NumGoroutine") = false) (hb : fn.body.isNone = false) : CallOk X.P f := ⟨fn, hf, hn, hb⟩
theorem one_val {F : FH} {η : Et} {n : Nat} {x : AV} {vals : Array Value} (hn : vals.size = [x].length) (hv : ∀ j (h : j < [x].length), VRel F η n [x][j] (vals.getD j undef)) : ∃ v, vals = #[v] ∧ VRel F η n x v := by
  obtain ⟨l⟩ := vals
  match l, hn, hv with
  | [y], _, hv => exact ⟨y, rfl, by simpa using hv 0 (by simp)⟩
theorem check_new_ok {σ : St} {i : Nat} (ho : σ.obj i = some bdFresh) : AFun X 57 [.ref i 0] σ fun E σ' => E = .ret (.tup []) ∧ σ' = σ.set i (.var [.ref i 0, .d (.s (.slice none 0 0))]) := by
  refine ⟨callOk Tryz.func57 (by kernel_rfl) (by kernel_rfl), fun F η w vals hg hf hs hn hv => ?_⟩
  obtain ⟨v, rfl, hvv⟩ := one_val hn hv
  have hor := hs.ob i _ ho
  have hin := hs.lt i _ ho
  generalize hb0 : η.blk i = b
  cases hvv with
  | ref h1 =>
    cases hor with
    | iter hb =>
      rw [hb0] at hb ⊢
      have hlt : b < w.heap.size := by
        rcases Nat.lt_or_ge b w.heap.size with h | h
        · exact h
        · rw [Array.getElem?_eq_none (by omega)] at hb; cases hb
      refine (check_new b w (by rw [Lib.cell_of_heap hb]; rfl) (by simp [World.shape?, hb]) (Lib.frozen_of_heap hb 0)).mono ?_
      rintro e w' ⟨rfl, rfl⟩
      have hbk : (w.setCell ⟨b, 0, none⟩ (.pointer (some ⟨b, 0, none⟩))).heap[b]? = some (.cells #[.pointer (some ⟨b, 0, none⟩), .slice none 0 0] 67 (0, 0)) := by
        simp only [World.setCell, Array.getElem?_modify, if_true, hb, Option.map_some]
        rfl
      obtain ⟨g1, g2, g3⟩ := upd (η' := η) (w' := w.setCell ⟨b, 0, none⟩ (.pointer (some ⟨b, 0, none⟩))) hf hs i (.var [.ref i 0, .d (.s (.slice none 0 0))]) σ.next hin (Nat.le_refl _) (Et.agree_refl _ _) ⟨by simp [World.setCell], rfl, rfl⟩
        (fun b' hb' hno => by
          have hne : b ≠ b' := fun e => hno _ ho (by show some (η.blk i) = some b'; rw [hb0, e])
          simp only [World.setCell, Array.getElem?_modify]
          rw [if_neg hne])
        (.var #[.pointer (some ⟨b, 0, none⟩), .slice none 0 0] 67 (by rw [hb0]; exact hbk) rfl (fun j hj => by
          match j, hj with
          | 0, _ => rfl
          | 1, _ => rfl) (fun j hj => by
          match j, hj with
          | 0, _ => show VRel F η σ.next (.ref i 0) (.pointer (some ⟨b, 0, none⟩)); rw [← hb0]; exact .ref hin
          | 1, _ => exact .d (.s _)))
        (fun b' hb' _ => ⟨_, ho, hb'⟩)
      exact ⟨F, η, σ.set i (.var [.ref i 0, .d (.s (.slice none 0 0))]), .ret (.tup []), g1, g2, g3, VRel.tup rfl (fun j hj => absurd hj (by simp)), rfl, rfl⟩
theorem check_used_ok {σ : St} {i : Nat} {x : AV} (ho : σ.obj i = some (.var [.ref i 0, x])) : AFun X 57 [.ref i 0] σ fun E σ' => E = .ret (.tup []) ∧ σ' = σ := by
  refine ⟨callOk Tryz.func57 (by kernel_rfl) (by kernel_rfl), fun F η w vals hg hf hs hn hv => ?_⟩
  obtain ⟨v, rfl, hvv⟩ := one_val hn hv
  have hor := hs.ob i _ ho
  cases hvv with
  | ref h1 =>
    cases hor with
    | var c E hb hn1 ho1 hr =>
      have h0 := hr 0 (by simp)
      have hc0 : c[0]? = some (.pointer (some ⟨η.blk i, 0, none⟩)) := by
        have hz : c.size = 2 := hn1
        have e1 : c.getD 0 undef = .pointer (some ⟨η.blk i, 0, none⟩) := by
          generalize hq : c.getD 0 undef = q at h0
          cases h0 with
          | ref _ => rfl
        rw [Array.getD_eq_getD_getElem?] at e1
        have : (0 : Nat) < c.size := by omega
        simp only [Array.getElem?_eq_getElem this, Option.getD_some] at e1 ⊢
        rw [e1]
      refine (check_used (η.blk i) w (by rw [Lib.cell_of_heap hb]; exact hc0)).mono ?_
      rintro e w' ⟨rfl, rfl⟩
      exact ⟨F, η, σ, .ret (.tup []), .refl _ _ _ _, hf, hs, VRel.tup rfl (fun j hj => absurd hj (by simp)), rfl, rfl⟩
/-- The text of a builder, which is given up with it. -/
theorem text_ok {σ : St} {i r h n : Nat} {s : ByteArray} {y : AV} (ho : σ.obj i = some (.var [y, .sl r h 0 n])) (hr : σ.obj r = some (.row h 5 1 (byteRows s))) (hn : n = s.size) (h0 : n ≠ 0) :
    AFun X 30 [.ref i 0] σ fun E σ' => E = .ret (vs s) ∧ σ' = σ.drop r := by
  refine ⟨callOk Tryz.func30 (by kernel_rfl) (by kernel_rfl), fun F η w vals hg hf hs hnv hv => ?_⟩
  obtain ⟨v, rfl, hvv⟩ := one_val hnv hv
  have hor := hs.ob i _ ho
  have horr := hs.ob r _ hr
  cases hvv with
  | ref h1 =>
    cases hor with
    | var c E hb hn1 ho1 hrel =>
      have hc1 := hrel 1 (by simp)
      cases horr with
      | row xs b1 b2 b3 b4 b5 b6 b7 =>
        simp only [List.getElem_cons_succ, List.getElem_cons_zero] at hc1
        generalize hq : c.getD 1 undef = q at hc1
        cases hc1 with
        | @sl _ _ _ _ g cap sz off q1 q2 hh hle hc' hoff =>
          have hoff := hoff (by omega)
          rw [Nat.zero_mul] at hoff
          subst hoff
          rw [Nat.sub_zero, Nat.sub_zero] at hq
          have hblk : (η.hdr h).blk = some g := by rw [hh]
          obtain ⟨cur, hg1, hn2, hcap1, hsz1, htk⟩ := own_row_blk b4 hblk
          have hcap : (η.hdr h).cap = cap := by rw [hh]
          rw [hcap] at hn2 hcap1 hsz1
          rw [byteRows_length, Nat.mul_one] at htk
          rw [byteRows_length] at hn2
          rw [Nat.mul_one] at hsz1
          have hlen : s.data.toList.length = n := by rw [hn]; simp
          have hne : s.data.toList ≠ [] := by intro e; rw [e] at hlen; simp at hlen; omega
          have hce : c = #[c.getD 0 undef, .slice (some ⟨g, 0, none⟩) s.data.toList.length cap] := by
            rw [hlen, ← hq]
            obtain ⟨l⟩ := c
            match l, hn1 with
            | [a, b], _ => rfl
          rw [hce] at hb
          refine (text_calls (η.blk i) g cap _ E (0, 0) cur s.data.toList w hne hb hg1 (by omega) hcap1 hsz1 (fun j x hx => ?_)).mono ?_
          · have hjl : j < s.data.toList.length := (List.getElem?_eq_some_iff.1 hx).1
            have hjb : j < (byteRows s).length := by rw [byteRows_length]; simpa using hjl
            have hrow := b7 j hjb 0 (by simp [byteRows])
            have hcur : cur[j]? = xs[j]? := by
              rw [← htk, List.getElem?_take, if_pos (by rw [byteRows_length] at hjb; exact hjb), Array.getElem?_toList]
            have hxl : xs.length = s.size := by
              have := b4.1
              rw [byteRows_length, Nat.mul_one] at this
              exact this
            have hjx : j < xs.length := by rw [hxl]; rw [byteRows_length] at hjb; exact hjb
            rw [hcur, List.getElem?_eq_getElem hjx]
            have e2 : xs.getD (j * 1 + 0) undef = xs[j] := by
              rw [Nat.mul_one, Nat.add_zero]
              simp [List.getD, List.getElem?_eq_getElem hjx]
            rw [e2] at hrow
            have e3 : (byteRows s)[j][0]'(by simp [byteRows]) = .d (.s (.int .u8 x.toNat)) := by
              have hxe : s.data.toList[j] = x := (List.getElem?_eq_some_iff.1 hx).2
              simp only [byteRows, List.getElem_map, List.getElem_cons_zero, hxe]
            rw [e3] at hrow
            rw [hrow.s_inv]
          · rintro e w' ⟨rfl, rfl⟩
            have hm : More w (w.drew.freeze ⟨g, 0, none⟩ s.data.toList.length) := by
              unfold World.freeze
              split
              · exact ⟨Nat.le_refl _, rfl, rfl⟩
              · exact ⟨by simp only [Array.size_modify]; exact Nat.le_refl _, rfl, rfl⟩
            obtain ⟨g1, g2, g3⟩ := drop_step (w' := w.drew.freeze ⟨g, 0, none⟩ s.data.toList.length) hf hs hr hm (fun b hbn hlt => by
              have hne2 : g ≠ b := fun e => hbn (by simp only [own]; rw [hblk, e])
              unfold World.freeze
              split
              · rfl
              · simp only [Array.getElem?_modify]
                rw [if_neg hne2]
                rfl)
            exact ⟨F, η, σ.drop r, .ret (vs s), g1, g2, g3, .d (.s _), rfl, rfl⟩
        | sl0 _ _ _ => exact absurd rfl h0
theorem pow_tab : Lib.pow10Tab = pow10L := by kernel_rfl
theorem itoa_ok (n : Int) (h0 : -9223372036854775808 ≤ n) (h1 : n ≤ 9223372036854775807) : PFun X 28 [vi n] (vs ⟨(Lib.itoa n).toArray⟩) := by
  refine PFun.ext1 (callOk Tryz.func28 (by kernel_rfl) (by kernel_rfl)) fun F w hg hf => itoa_calls n h0 h1 w ?_
  obtain ⟨hd, c, E, fz, hF, hsz⟩ := hg 2 (pow10L.map fun n => .s (.int .u64 n)) rfl
  have hw := hf _ _ hF
  unfold Lib.TabIs World.var?
  rw [show Tryz.prog.globalNamed "internal/strconv.uint64pow10" = some 2 by kernel_rfl]
  simp only [Option.bind_some]
  rw [hw]
  simp only [Option.some.injEq]
  rw [pow_tab]
  generalize hp : Value.pointer (some ⟨2, 0, none⟩) = p at hd
  cases hd with
  | ip _ _ b o c' E' fz' f hb hc ho hr =>
    simp only [Value.pointer.injEq, Option.some.injEq, Addr.mk.injEq] at hp
    obtain ⟨hp1, hp2, _⟩ := hp
    subst hp1
    have ho0 : o = 0 := by omega
    subst ho0
    rw [hF] at hb
    simp only [Option.some.injEq, Obj.cells.injEq] at hb
    obtain ⟨rfl, rfl, rfl⟩ := hb
    apply Array.ext
    · rw [hsz]; simp
    · intro j hj1 hj2
      have hjl : j < pow10L.length := by rw [hsz] at hj1; simpa using hj1
      have e1 := hc j (by simpa using hjl)
      have e2 := hr j (by simpa using hjl)
      simp only [List.getElem_map] at e2
      have e3 : f j = .int .u64 pow10L[j] := by
        generalize f j = u at e2
        cases e2
        rfl
      simp only [Array.getElem?_eq_getElem hj1, Nat.zero_add, Option.some.injEq] at e1
      rw [e1, e3]
      simp
end Go.Pm
/- strings.Builder: WriteString. -/
set_option linter.unusedVariables false
set_option linter.unusedSimpArgs false
namespace Go.Pm
attribute [local irreducible] AR Ok inBlock andThen endQ aoper
set_option maxHeartbeats 1000000
open Go.Proofs
def noErr : AV := .d (.s .nilIface)
def wrNew (σ : St) (i : Nat) (s : ByteArray) : St := ((σ.set i (.var [.ref i 0, .d (.s (.slice none 0 0))])).alloc (.row σ.next 5 1 (byteRows s))).set i (.var [.ref i 0, .sl σ.next σ.next 0 s.size])
theorem write_new_ok {σ : St} {i : Nat} (ho : σ.obj i = some bdFresh) (s : ByteArray) (hs : s.size ≤ 140737488355328) :
    AFun X 27 [.ref i 0, vs s] σ fun E σ' => E = .ret (.tup [vi s.size, noErr]) ∧ σ' = wrNew σ i s := by
  refine AFun.wf (callOk Tryz.func27 (by kernel_rfl) (by kernel_rfl)) fun hwf => ?_
  have hi := hwf i _ ho
  have hne : i ≠ σ.next := by omega
  refine afun_of Tryz.func27 rfl (by decide) Tryz.ntmps27 Tryz.results27 (by simp) ?_
  have h1 : (σ.set i (.var [.ref i 0, .d (.s (.slice none 0 0))])).obj i = some (.var [.ref i 0, .d (.s (.slice none 0 0))]) := by rw [St.obj_set, if_pos rfl]
  have h2 : ∀ o, ((σ.set i (.var [.ref i 0, .d (.s (.slice none 0 0))])).alloc o).obj i = some (.var [.ref i 0, .d (.s (.slice none 0 0))]) := fun o => by
    rw [St.obj_alloc, St.next_set, if_neg hne]; exact h1
  repeat' first
    | refine Z1 ?_ | refine Z2 ?_ | refine Z3 ?_ | refine Z4 ?_ | refine Z5 ?_ | refine Z6 ?_ | refine Z7 ?_ | refine Z8 ?_ | refine Z9 ?_ | refine Za (fun hc => ?_) (fun hc => ?_) | refine Zb (fun hc => ?_) (fun hc => ?_)
    | refine Ym (check_new_ok ho) ?_ | refine nil_check ?_ | refine Ys h1 ?_ | refine Uh hs ?_ | refine Yt (m := [.ref i 0, .sl σ.next σ.next 0 s.size]) (h2 _) ?_ | refine Zd ?_ | refine Ze ?_ | refine Zf ?_ | refine Zg ?_ | refine Zh ?_
    | refine Zi ?_ | refine Zj ?_ | refine Zk ?_ | refine Zl ?_ | refine Zm ?_ | refine Zn (fun hc => ?_) (fun hc => ?_) | refine ret2 ?_ | refine Zo ?_ | refine ok_seq ?_ | refine ok_reg ?_ | refine Zp ?_ | refine Zq ?_
    | refine Zr (fun hc => ?_) (fun hc => ?_) | refine ok_block ?_ | refine ok_exit ?_ | refine ok_skip ?_ | refine ok_ret ?_ | refine x_normal_then ?_ | refine x_exit_here ?_ | refine Zs ?_ | refine Zv ?_ | refine x_ret_then ?_
    | refine x_ret_block ?_ | refine x_normal_block ?_ | refine Zt ?_ | refine Zu ?_
  exact ⟨rfl, rfl⟩
def wrUsed (σ : St) (i r : Nat) (s : ByteArray) : St := (bumpSet σ r (.row σ.next 5 1 (byteRows s))).set i (.var [.ref i 0, .sl r σ.next 0 s.size])
theorem write_ok {σ : St} {i r h : Nat} {t : ByteArray} (ho : σ.obj i = some (.var [.ref i 0, .sl r h 0 t.size])) (hr : σ.obj r = some (.row h 5 1 (byteRows t))) (s : ByteArray) (hs : (t ++ s).size ≤ 140737488355328) :
    AFun X 27 [.ref i 0, vs s] σ fun E σ' => E = .ret (.tup [vi s.size, noErr]) ∧ σ' = wrUsed σ i r (t ++ s) := by
  have hne : i ≠ r := fun e => by rw [e, hr] at ho; cases ho
  refine afun_of Tryz.func27 rfl (by decide) Tryz.ntmps27 Tryz.results27 (by simp) ?_
  have h2 : ∀ o, (bumpSet σ r o).obj i = some (.var [.ref i 0, .sl r h 0 t.size]) := fun o => by
    rw [obj_bumpSet, if_neg hne]; exact ho
  repeat' first
    | refine Z1 ?_ | refine Z2 ?_ | refine Z3 ?_ | refine Z4 ?_ | refine Z5 ?_ | refine Z6 ?_ | refine Z7 ?_ | refine Z8 ?_ | refine Z9 ?_ | refine Za (fun hc => ?_) (fun hc => ?_) | refine Zb (fun hc => ?_) (fun hc => ?_)
    | refine Ym (check_used_ok ho) ?_ | refine nil_check ?_ | refine Ys ho ?_ | refine Ui hr hs ?_ | refine Yt (m := [.ref i 0, .sl r σ.next 0 (t ++ s).size]) (h2 _) ?_ | refine Zd ?_ | refine Ze ?_ | refine Zf ?_ | refine Zg ?_
    | refine Zh ?_ | refine Zi ?_ | refine Zj ?_ | refine Zk ?_ | refine Zl ?_ | refine Zm ?_ | refine Zn (fun hc => ?_) (fun hc => ?_) | refine ret2 ?_ | refine Zo ?_ | refine ok_seq ?_ | refine ok_reg ?_ | refine Zp ?_ | refine Zq ?_
    | refine Zr (fun hc => ?_) (fun hc => ?_) | refine ok_block ?_ | refine ok_exit ?_ | refine ok_skip ?_ | refine ok_ret ?_ | refine x_normal_then ?_ | refine x_exit_here ?_ | refine Zs ?_ | refine Zv ?_ | refine x_ret_then ?_
    | refine x_ret_block ?_ | refine x_normal_block ?_ | refine Zt ?_ | refine Zu ?_
  exact ⟨rfl, rfl⟩
theorem write_first_ok {σ : St} {i r : Nat} (ho : σ.obj i = some bdFresh) (hr : σ.obj r = none) (hrn : r < σ.next) (s : ByteArray) (hs : s.size ≤ 140737488355328) :
    AFun X 27 [.ref i 0, vs s] σ fun E σ' => E = .ret (.tup [vi s.size, noErr]) ∧ σ' = wrUsed σ i r s := by
  refine AFun.wf (callOk Tryz.func27 (by kernel_rfl) (by kernel_rfl)) fun hwf => ?_
  have hi := hwf i _ ho
  have hne : i ≠ r := fun e => by rw [e, hr] at ho; cases ho
  refine afun_of Tryz.func27 rfl (by decide) Tryz.ntmps27 Tryz.results27 (by simp) ?_
  have h1 : (σ.set i (.var [.ref i 0, .d (.s (.slice none 0 0))])).obj i = some (.var [.ref i 0, .d (.s (.slice none 0 0))]) := by rw [St.obj_set, if_pos rfl]
  have h3 : (σ.set i (.var [.ref i 0, .d (.s (.slice none 0 0))])).obj r = none := by rw [St.obj_set, if_neg (Ne.symm hne)]; exact hr
  have h2 : ∀ o, (bumpSet (σ.set i (.var [.ref i 0, .d (.s (.slice none 0 0))])) r o).obj i = some (.var [.ref i 0, .d (.s (.slice none 0 0))]) := fun o => by
    rw [obj_bumpSet, if_neg hne]; exact h1
  repeat' first
    | refine Um h3 hrn hs ?_ | refine Z1 ?_ | refine Z2 ?_ | refine Z3 ?_ | refine Z4 ?_ | refine Z5 ?_ | refine Z6 ?_ | refine Z7 ?_ | refine Z8 ?_ | refine Z9 ?_ | refine Za (fun hc => ?_) (fun hc => ?_)
    | refine Zb (fun hc => ?_) (fun hc => ?_) | refine Ym (check_new_ok ho) ?_ | refine nil_check ?_ | refine Ys h1 ?_ | refine Yt (m := [.ref i 0, .sl r σ.next 0 s.size]) (h2 _) ?_ | refine Zd ?_ | refine Ze ?_ | refine Zf ?_
    | refine Zg ?_ | refine Zh ?_ | refine Zi ?_ | refine Zj ?_ | refine Zk ?_ | refine Zl ?_ | refine Zm ?_ | refine Zn (fun hc => ?_) (fun hc => ?_) | refine ret2 ?_ | refine Zo ?_ | refine ok_seq ?_ | refine ok_reg ?_ | refine Zp ?_
    | refine Zq ?_ | refine Zr (fun hc => ?_) (fun hc => ?_) | refine ok_block ?_ | refine ok_exit ?_ | refine ok_skip ?_ | refine ok_ret ?_ | refine x_normal_then ?_ | refine x_exit_here ?_ | refine Zs ?_ | refine Zv ?_
    | refine x_ret_then ?_ | refine x_ret_block ?_ | refine x_normal_block ?_ | refine Zt ?_ | refine Zu ?_
  refine ⟨rfl, St.ext' (funext fun j => ?_) rfl⟩
  simp only [wrUsed, St.obj_set, obj_bumpSet]
  by_cases a : j = i
  · simp [a]
  · by_cases c : j = r
    · simp [a, c, Ne.symm hne]
    · simp [a, c]
end Go.Pm
/- Codes as texts, as the program prints them. -/
set_option linter.unusedVariables false
set_option linter.unusedSimpArgs false
namespace Go.Pm
attribute [local irreducible] AR Ok inBlock andThen endQ aoper
set_option maxHeartbeats 2000000
open Go.Proofs
def B (l : List UInt8) : ByteArray := ⟨l.toArray⟩
def itoaB (n : Int) : ByteArray := ⟨(Lib.itoa n).toArray⟩
def ctFind (n : Int) : ByteArray := ((ctS.find? fun y => decide (y.1 = n)).map (·.2)).getD ⟨#[]⟩
theorem afind_ct (n : Int) : ∀ l : List (Int × ByteArray), afind ((l.map fun y => (Value.int .i64 y.1, D.s (.string y.2))).map fun e => (e.1, AV.d e.2)) (.int .i64 n) = (l.find? fun y => decide (y.1 = n)).map fun y => vs y.2
  | [] => rfl
  | y :: l => by
    simp only [List.map_cons, afind, keyEq, List.find?_cons]
    by_cases h : y.1 = n
    · simp [h]
    · have h' : ¬ n = y.1 := fun e => h e.symm
      simp only [h, h', decide_false, Bool.false_eq_true, if_false]
      exact afind_ct n l
section
variable {nt : Nat} {Q : Exit → Env → St → Prop} {env : Env} {σ : St} {K : AV → St → Prop}
theorem Uk {n : Int} {m k : Operand} {t kt et : TypeId} {ti tk te : TI} (h : K (vs (ctFind n)) σ) (hm : aev X env m = .d (.mp (.int .i64) ctMap) := by exact rfl) (hk : aev X env k = vi n := by exact rfl) (h1 : X.T t = some ti := by exact rfl) (h2 : ti.kind = .map kt et := by exact rfl) (h3 : X.T kt = some tk := by exact rfl) (h4 : X.T et = some te := by exact rfl)
    (h5 : tk.kind = .int .i64 := by exact rfl) (h6 : azero te = .d (.s (.string ⟨#[]⟩)) := by exact rfl) : aoper X (.lookup t m k false) env σ Q K := by
  simp only [aoper, aop, alookup]
  rw [hm, hk]
  refine ⟨ti, h1, kt, et, h2, tk, te, h3, h4, .int .i64 n, rfl, by rw [h5]; rfl, by rw [h5]; rfl, ctMap.map fun e => (e.1, AV.d e.2), rfl, ?_⟩
  simp only [Bool.false_eq_true, if_false]
  have := afind_ct n ctS
  unfold ctMap
  rw [this, h6]
  have e2 : ((ctS.find? fun y => decide (y.1 = n)).map fun y => vs y.2).getD (.d (.s (.string ⟨#[]⟩))) = vs (ctFind n) := by
    unfold ctFind
    cases ctS.find? fun y => decide (y.1 = n) <;> rfl
  rw [e2]
  exact h
end
def boolT (v : Int) : ByteArray := if v ≠ 0 then B [116, 114, 117, 101] else B [102, 97, 108, 115, 101]
theorem boolt_ok (v : Int) : PFun X 59 [vi v] (vs (boolT v)) := by
  refine pfun_of Tryz.func59 rfl (by decide) Tryz.ntmps59 Tryz.results59 (by simp) rfl rfl ?_
  by_cases h : v ≠ 0
  · have e : decide (v ≠ 0) = true := decide_eq_true h
    have hb : boolT v = B [116, 114, 117, 101] := if_pos h
    repeat' first
      | refine Z1 ?_ | refine Z2 ?_ | refine Zo ?_ | refine ok_seq ?_ | refine Zp ?_ | refine ok_ret ?_ | refine x_ret_then ?_ | refine Zt ?_
    rw [hb]; rfl
  · have e : decide (v ≠ 0) = false := decide_eq_false h
    have hb : boolT v = B [102, 97, 108, 115, 101] := if_neg h
    repeat' first
      | refine Z1 ?_ | refine Z2 ?_ | refine Zo ?_ | refine ok_seq ?_ | refine Zq ?_ | refine ok_skip ?_ | refine ok_ret ?_ | refine x_normal_then ?_ | refine Zt ?_
    rw [hb]; rfl
def partI (x : Itm) : ByteArray := if x.op = 1 then itoaB x.val else if x.op = 2 then boolT x.val else if x.op = 3 then B [46] ++ x.name else if x.op = 25 then B [64] ++ itoaB x.val else ctFind x.op
def codeT : List Itm → ByteArray
  | [] => B []
  | x :: l => B [32] ++ partI x ++ codeT l
theorem ba_assoc (a b c : ByteArray) : a ++ b ++ c = a ++ (b ++ c) := by
  apply ByteArray.ext; simp [ByteArray.data_append, Array.append_assoc]
theorem ba_nil (a : ByteArray) : a ++ B [] = a := by apply ByteArray.ext; simp [ByteArray.data_append, B]
theorem codes_s (l : List Itm) (t : ByteArray) (hv : ∀ x ∈ l, -9223372036854775808 ≤ x.val ∧ x.val ≤ 9223372036854775807) (hl : l.length ≤ 1048576) (hs : (t ++ codeT l).size ≤ 140737488355328) :
    AFun X 29 [.ref 0 0, .d (.im (l.map eItm))] (stL (bdO 5 2 t ++ [none])) fun E σ' => E = .ret (.tup []) ∧ σ' = stL (bdO 5 3 (t ++ codeT l) ++ [none, none]) := by
  refine afun_of Tryz.func29 rfl (by decide) Tryz.ntmps29 Tryz.results29 (by simp) ?_
  unfold bdO
  repeat' first
    | refine Z1 ?_ | refine Z2 ?_ | refine Z5 ?_ | refine Zd ?_ | refine Zo ?_ | refine ok_block ?_
  refine ok_forR (ι := Nat × ByteArray) (fun x_ => envL [(0, .ref 0 0), (6, .d (.im (l.map eItm))), (7, vi l.length), (8, vi x_.1)]) (fun x_ => stL [some (.var [.ref 0 0, .sl 1 3 0 x_.2.size]), some (.row 3 5 1 (byteRows x_.2)), none, none]) (fun x_ => x_.1 ≤ l.length ∧ x_.2 ++ codeT (l.drop x_.1) = t ++ codeT l) (fun x_ => l.length - x_.1) (0, t) (⟨Nat.zero_le _, rfl⟩) Turn.refl (lowR_mk [(3, 2)] rfl rfl rfl ⟨⟨rfl, rfl⟩, ⟨rfl, rfl⟩, ⟨rfl, rfl⟩, ⟨rfl, rfl⟩, trivial⟩ ⟨⟨rfl, rfl⟩, ⟨renO_row rfl (byteRows_ren _ _), blt_lt rfl, byteRows_low _ _⟩, trivial⟩) ?_
  rintro ⟨k, u⟩ ⟨i1, i2⟩
  simp only at i1 i2
  rcases hx : l[k]? with _ | x
  · have hle := none_le hx
    have ek : decide ((k : Int) < (l.length : Int)) = false := decide_eq_false (by omega)
    rw [drop_none hx] at i2
    simp only [codeT, ba_nil] at i2
    subst i2
    repeat' first
      | refine Z1 ?_ | refine Z2 ?_ | refine nrm0 ?_ | refine Zo ?_ | refine ok_seq ?_ | refine Zq ?_ | refine ok_exit ?_ | refine x_exit_here ?_ | refine Zv ?_
    exact ⟨rfl, rfl⟩
  obtain ⟨hd, hlt⟩ := drop_some hx
  have ek : decide ((k : Int) < (l.length : Int)) = true := decide_eq_true (by omega)
  obtain ⟨v1, v2⟩ := hv x (List.mem_of_getElem? hx)
  rw [hd] at i2
  simp only [codeT] at i2
  rw [← ba_assoc, ← ba_assoc] at i2
  have hsz := congrArg ByteArray.size i2
  rw [ByteArray.size_append] at hsz
  have hb2 : (u ++ B [32] ++ partI x).size ≤ 140737488355328 := by omega
  have hb1 : (u ++ B [32]).size ≤ 140737488355328 := by rw [ByteArray.size_append] at hb2; omega
  by_cases o1 : x.op = 1
  · have d1 : decide (x.op = 1) = true := decide_eq_true o1
    have hp : partI x = itoaB x.val := if_pos o1
    rw [hp] at hb2 i2
    repeat' first
      | refine Z1 ?_ | refine Z2 ?_ | refine Z3 ?_ | refine Z5 ?_ | refine Ym (write_ok (i := 0) (r := 1) (h := 3) (t := u) rfl rfl (B [32]) hb1) ?_ | refine Zc (itoa_ok x.val v1 v2) ?_
      | refine Ym (write_ok (i := 0) (r := 1) (h := 5) (t := u ++ B [32]) rfl rfl (itoaB x.val) hb2) ?_ | refine Ze ?_ | refine Zf ?_ | refine Zo ?_ | refine ok_seq ?_ | refine ok_reg ?_ | refine Zp ?_ | refine ok_block ?_ | refine ok_skip ?_
      | refine x_normal_then ?_ | refine x_normal_block ?_
    exact ⟨(k + 1, u ++ B [32] ++ itoaB x.val), ⟨hlt, i2⟩, by (try simp only); omega, lowR_mk [(3, 6)] rfl rfl rfl ⟨⟨rfl, rfl⟩, ⟨rfl, rfl⟩, ⟨rfl, rfl⟩, ⟨rfl, rfl⟩, trivial⟩ ⟨⟨rfl, rfl⟩, ⟨renO_row rfl (byteRows_ren _ _), blt_lt rfl, byteRows_low _ _⟩, trivial⟩⟩
  have d1 : decide (x.op = 1) = false := decide_eq_false o1
  by_cases o2 : x.op = 2
  · have d2 : decide (x.op = 2) = true := decide_eq_true o2
    have hp : partI x = boolT x.val := by unfold partI; rw [if_neg o1, if_pos o2]
    rw [hp] at hb2 i2
    repeat' first
      | refine Z1 ?_ | refine Z2 ?_ | refine Z3 ?_ | refine Z5 ?_ | refine Ym (write_ok (i := 0) (r := 1) (h := 3) (t := u) rfl rfl (B [32]) hb1) ?_ | refine Zc (boolt_ok x.val) ?_
      | refine Ym (write_ok (i := 0) (r := 1) (h := 5) (t := u ++ B [32]) rfl rfl (boolT x.val) hb2) ?_ | refine Ze ?_ | refine Zf ?_ | refine Zo ?_ | refine ok_seq ?_ | refine ok_reg ?_ | refine Zp ?_ | refine Zq ?_ | refine ok_block ?_
      | refine ok_skip ?_ | refine x_normal_then ?_ | refine x_normal_block ?_
    exact ⟨(k + 1, u ++ B [32] ++ boolT x.val), ⟨hlt, i2⟩, by (try simp only); omega, lowR_mk [(3, 6)] rfl rfl rfl ⟨⟨rfl, rfl⟩, ⟨rfl, rfl⟩, ⟨rfl, rfl⟩, ⟨rfl, rfl⟩, trivial⟩ ⟨⟨rfl, rfl⟩, ⟨renO_row rfl (byteRows_ren _ _), blt_lt rfl, byteRows_low _ _⟩, trivial⟩⟩
  have d2 : decide (x.op = 2) = false := decide_eq_false o2
  by_cases o3 : x.op = 3
  · have d3 : decide (x.op = 3) = true := decide_eq_true o3
    have hp : partI x = B [46] ++ x.name := by unfold partI; rw [if_neg o1, if_neg o2, if_pos o3]
    rw [hp] at hb2 i2
    have hb3 := hb2
    rw [ByteArray.size_append] at hb3
    repeat' first
      | refine Z1 ?_ | refine Z2 ?_ | refine Z3 ?_ | refine Z5 ?_ | refine Ym (write_ok (i := 0) (r := 1) (h := 3) (t := u) rfl rfl (B [32]) hb1) ?_ | refine Ul (a := B [46]) (b := x.name) ?_
      | refine Ym (write_ok (i := 0) (r := 1) (h := 5) (t := u ++ B [32]) rfl rfl (B [46] ++ x.name) hb2) ?_ | refine Ze ?_ | refine Zf ?_ | refine Zo ?_ | refine ok_seq ?_ | refine ok_reg ?_ | refine Zp ?_ | refine Zq ?_ | refine ok_block ?_
      | refine ok_skip ?_ | refine x_normal_then ?_ | refine x_normal_block ?_
    exact ⟨(k + 1, u ++ B [32] ++ (B [46] ++ x.name)), ⟨hlt, i2⟩, by (try simp only); omega, lowR_mk [(3, 6)] rfl rfl rfl ⟨⟨rfl, rfl⟩, ⟨rfl, rfl⟩, ⟨rfl, rfl⟩, ⟨rfl, rfl⟩, trivial⟩ ⟨⟨rfl, rfl⟩, ⟨renO_row rfl (byteRows_ren _ _), blt_lt rfl, byteRows_low _ _⟩, trivial⟩⟩
  have d3 : decide (x.op = 3) = false := decide_eq_false o3
  by_cases o4 : x.op = 25
  · have d4 : decide (x.op = 25) = true := decide_eq_true o4
    have hp : partI x = B [64] ++ itoaB x.val := by unfold partI; rw [if_neg o1, if_neg o2, if_neg o3, if_pos o4]
    rw [hp] at hb2 i2
    have hb3 := hb2
    rw [ByteArray.size_append] at hb3
    repeat' first
      | refine Z1 ?_ | refine Z2 ?_ | refine Z3 ?_ | refine Z5 ?_ | refine Ym (write_ok (i := 0) (r := 1) (h := 3) (t := u) rfl rfl (B [32]) hb1) ?_ | refine Zc (itoa_ok x.val v1 v2) ?_
      | refine Ul (a := B [64]) (b := itoaB x.val) ?_ | refine Ym (write_ok (i := 0) (r := 1) (h := 5) (t := u ++ B [32]) rfl rfl (B [64] ++ itoaB x.val) hb2) ?_ | refine Ze ?_ | refine Zf ?_ | refine Zo ?_ | refine ok_seq ?_
      | refine ok_reg ?_ | refine Zp ?_ | refine Zq ?_ | refine ok_block ?_ | refine ok_skip ?_ | refine x_normal_then ?_ | refine x_normal_block ?_
    exact ⟨(k + 1, u ++ B [32] ++ (B [64] ++ itoaB x.val)), ⟨hlt, i2⟩, by (try simp only); omega, lowR_mk [(3, 6)] rfl rfl rfl ⟨⟨rfl, rfl⟩, ⟨rfl, rfl⟩, ⟨rfl, rfl⟩, ⟨rfl, rfl⟩, trivial⟩ ⟨⟨rfl, rfl⟩, ⟨renO_row rfl (byteRows_ren _ _), blt_lt rfl, byteRows_low _ _⟩, trivial⟩⟩
  have d4 : decide (x.op = 25) = false := decide_eq_false o4
  have hp : partI x = ctFind x.op := by unfold partI; rw [if_neg o1, if_neg o2, if_neg o3, if_neg o4]
  rw [hp] at hb2 i2
  repeat' first
    | refine Z1 ?_ | refine Z2 ?_ | refine Z3 ?_ | refine Z5 ?_ | refine Ym (write_ok (i := 0) (r := 1) (h := 3) (t := u) rfl rfl (B [32]) hb1) ?_ | refine Uk (n := x.op) ?_
    | refine Ym (write_ok (i := 0) (r := 1) (h := 5) (t := u ++ B [32]) rfl rfl (ctFind x.op) hb2) ?_ | refine Ze ?_ | refine Zf ?_ | refine Zo ?_ | refine ok_seq ?_ | refine ok_reg ?_ | refine Zp ?_ | refine Zq ?_ | refine ok_block ?_
    | refine ok_skip ?_ | refine x_normal_then ?_ | refine x_normal_block ?_
  exact ⟨(k + 1, u ++ B [32] ++ ctFind x.op), ⟨hlt, i2⟩, by (try simp only); omega, lowR_mk [(3, 6)] rfl rfl rfl ⟨⟨rfl, rfl⟩, ⟨rfl, rfl⟩, ⟨rfl, rfl⟩, ⟨rfl, rfl⟩, trivial⟩ ⟨⟨rfl, rfl⟩, ⟨renO_row rfl (byteRows_ren _ _), blt_lt rfl, byteRows_low _ _⟩, trivial⟩⟩
end Go.Pm
