/- Machines of the specification: cells and bounds. -/
import Derived.Test.YtaabemmnjhgbgaaGreatDoorC2
import Derived.Test.YtaabemmnjhgbgaaGreatDoorC3
import Derived.Test.YtaabemmnjhgbgaaGreatDoorB7
import Derived.Test.YtaabemmnjhgbgaaGreatDoorB5
import Derived.Test.YtaabemmnjhgbgaaGreatDoorA3
set_option linter.unusedVariables false
set_option linter.unusedSimpArgs false
namespace Go.Pm
attribute [local irreducible] AR Ok inBlock andThen endQ aoper
set_option maxHeartbeats 4000000
open Go.Proofs
def bdC (Z : List Int) : Prop := ∀ z ∈ Z, 0 ≤ z ∧ z ≤ 20001
def instSum (Z : List Int) : Int → List Int → Int
  | n, [] => n
  | n, g :: l => instSum Z (n + (Z[g.toNat]?).getD 0) l
def cellsGo : List Int → List Cls → List Int
  | Z, [] => Z
  | Z, c :: r => cellsGo (Z ++ [min (instSum Z c.mems.length c.insts) 20001]) r
def cellsS (cs : List Cls) : List Int := cellsGo [] cs
theorem bdC_push {Z : List Int} {v : Int} (h : bdC Z) (h0 : 0 ≤ v) (h1 : v ≤ 20001) : bdC (Z ++ [v]) := by
  intro z hz
  rcases List.mem_append.1 hz with h' | h'
  · exact h z h'
  · simp only [List.mem_singleton] at h'; subst h'; exact ⟨h0, h1⟩
theorem scells_ok (cs : List Cls) (hw : wL wCls cs ≤ 1048576) (hg : ∀ (k : Nat) (c : Cls), cs[k]? = some c → ∀ g ∈ c.insts, 0 ≤ g ∧ g < (k : Int)) : PFun X 20 [.agg [.d (.im (cs.map eCls))]] (.d (.im ((cellsS cs).map eNum))) := by
  have hcl : cs.length ≤ 1048576 := by simp only [wL] at hw; omega
  refine pfun_of Tryz.func20 rfl (by decide) Tryz.ntmps20 Tryz.results20 (by simp) rfl rfl ?_
  repeat' first
    | refine Z1 ?_ | refine Z2 ?_ | refine Z5 ?_ | refine op_bslice rfl rfl rfl rfl rfl rfl rfl ?_ | refine Zd ?_ | refine Zo ?_ | refine ok_seq ?_ | refine ok_block ?_
  refine ok_forR (ι := Nat × List Int) (fun x_ => envL [(1, .ref 0 0), (3, .sl 1 2 0 x_.2.length), (11, .d (.im (cs.map eCls))), (12, vi cs.length), (13, vi x_.1)]) (fun x_ => stL [some (.var [.d (.im (cs.map eCls))]), some (.row 2 3 1 (im2 eNum x_.2)), none]) (fun x_ => x_.1 ≤ cs.length ∧ x_.2.length = x_.1 ∧ bdC x_.2 ∧ cellsGo x_.2 (cs.drop x_.1) = cellsS cs) (fun x_ => cs.length - x_.1) (0, []) (⟨Nat.zero_le _, rfl, fun x hx => by simp at hx, rfl⟩) Turn.refl (lowR_mk [(2, 1)] rfl rfl rfl ⟨⟨rfl, rfl⟩, ⟨rfl, rfl⟩, ⟨rfl, rfl⟩, ⟨rfl, rfl⟩, ⟨rfl, rfl⟩, trivial⟩ ⟨⟨rfl, rfl⟩, ⟨renO_row rfl (by first | exact im2_ren _ _ _ | rfl), blt_lt rfl, im2_low _ _ _⟩, trivial⟩) ?_
  rintro ⟨k, Z⟩ ⟨i1, i2, i3, i5⟩
  simp only at i1 i2 i3 i5
  rcases hx : cs[k]? with _ | c
  · have hle := none_le hx
    have ek : decide ((k : Int) < (cs.length : Int)) = false := decide_eq_false (by omega)
    rw [drop_none hx] at i5
    have i5 : Z = cellsS cs := i5
    subst i5
    repeat' first
      | refine Z1 ?_ | refine Z2 ?_ | refine fz_rows (e := eNum) (l := cellsS cs) rfl 2 rfl rfl rfl ?_ | refine Zo ?_ | refine ok_seq ?_ | refine Zq ?_ | refine ok_exit ?_ | refine ok_ret ?_ | refine x_normal_then ?_
      | refine x_exit_here ?_ | refine Zv ?_ | refine Zt ?_
    rfl
  obtain ⟨hd, hlt⟩ := drop_some hx
  have ek : decide ((k : Int) < (cs.length : Int)) = true := decide_eq_true (by omega)
  have hwc : wCls c ≤ 1048576 := by have := wL_mem (w := wCls) (List.mem_of_getElem? hx); simp only [wL] at hw; omega
  have hl := cls_le hwc
  rw [hd] at i5
  simp only [cellsGo] at i5
  repeat' first
    | refine Z1 ?_ | refine Z2 ?_ | refine Z5 ?_ | refine Zd ?_ | refine Ze ?_ | refine Zo ?_ | refine ok_seq ?_ | refine Zp ?_ | refine ok_block ?_ | refine ok_skip ?_ | refine x_normal_then ?_
  refine ok_for (ι := Nat × Int) (fun x_ => envL [(1, .ref 0 0), (3, .sl 1 2 0 Z.length), (11, .d (.im (cs.map eCls))), (12, vi cs.length), (13, vi k), (6, vi x_.2), (21, .d (.im (c.insts.map eNum))), (22, vi c.insts.length), (23, vi x_.1)]) (fun x_ => stL [some (.var [.d (.im (cs.map eCls))]), some (.row 2 3 1 (im2 eNum Z)), none, none]) (fun x_ => x_.1 ≤ c.insts.length ∧ 0 ≤ x_.2 ∧ x_.2 ≤ 1048576 + 20001 * (x_.1 : Int) ∧ instSum Z x_.2 (c.insts.drop x_.1) = instSum Z c.mems.length c.insts) (fun x_ => c.insts.length - x_.1) (0, (c.mems.length : Int)) (⟨Nat.zero_le _, by simp only; omega, by simp only; omega, rfl⟩) (weak_mk rfl ⟨.refl _, .refl _, .refl _, .refl _, .refl _, .refl _, .refl _, .refl _, .refl _, trivial⟩ ⟨⟨rfl, _, rfl, rfl, fun _ _ _ => .refl _⟩, ⟨rfl, _, rfl, rfl, rfl, rfl, rfl⟩, trivial⟩) (fun _ => Nat.le_refl 4) ?_
  rintro ⟨m, n⟩ ⟨j1, j2, j3, j4⟩
  simp only at j1 j2 j3 j4
  rcases hy : c.insts[m]? with _ | g
  · have hle := none_le hy
    have em : decide ((m : Int) < (c.insts.length : Int)) = false := decide_eq_false (by omega)
    rw [drop_none hy] at j4
    have j4 : n = instSum Z c.mems.length c.insts := j4
    rw [← j4] at i5
    by_cases hb : 20000 < n
    · have eb : decide (20000 < n) = true := decide_eq_true hb
      rw [show min n 20001 = 20001 by omega] at i5
      repeat' first
        | refine Z1 ?_ | refine Z2 ?_ | refine Z3 ?_ | refine Z4 ?_ | refine Z5 ?_ | refine Yl (e := eNum) (l := Z) [(20001 : Int)] ?_ | refine Zf ?_ | refine Zo ?_ | refine ok_seq ?_ | refine ok_reg ?_ | refine Zp ?_
        | refine Zq ?_ | refine ok_exit ?_ | refine x_normal_then ?_ | refine x_exit_here ?_ | refine Zv ?_ | refine x_normal_block ?_
      exact ⟨(k + 1, Z ++ [20001]), ⟨hlt, by simp [i2], bdC_push i3 (by omega) (by omega), i5⟩, by (try simp only); omega, lowR_mk [(2, 5)] rfl rfl rfl ⟨⟨rfl, rfl⟩, ⟨rfl, rfl⟩, ⟨rfl, rfl⟩, ⟨rfl, rfl⟩, ⟨rfl, rfl⟩, trivial⟩ ⟨⟨rfl, rfl⟩, ⟨renO_row rfl (by first | exact im2_ren _ _ _ | rfl), blt_lt rfl, im2_low _ _ _⟩, trivial⟩⟩
    · have eb : decide (20000 < n) = false := decide_eq_false hb
      rw [show min n 20001 = n by omega] at i5
      repeat' first
        | refine Z1 ?_ | refine Z2 ?_ | refine Z3 ?_ | refine Z4 ?_ | refine Z5 ?_ | refine Yl (e := eNum) (l := Z) [n] ?_ | refine Zf ?_ | refine Zo ?_ | refine ok_seq ?_ | refine ok_reg ?_ | refine Zq ?_ | refine ok_exit ?_
        | refine ok_skip ?_ | refine x_normal_then ?_ | refine x_exit_here ?_ | refine Zv ?_ | refine x_normal_block ?_
      exact ⟨(k + 1, Z ++ [n]), ⟨hlt, by simp [i2], bdC_push i3 (by omega) (by omega), i5⟩, by (try simp only); omega, lowR_mk [(2, 5)] rfl rfl rfl ⟨⟨rfl, rfl⟩, ⟨rfl, rfl⟩, ⟨rfl, rfl⟩, ⟨rfl, rfl⟩, ⟨rfl, rfl⟩, trivial⟩ ⟨⟨rfl, rfl⟩, ⟨renO_row rfl (by first | exact im2_ren _ _ _ | rfl), blt_lt rfl, im2_low _ _ _⟩, trivial⟩⟩
  obtain ⟨hd2, hlt2⟩ := drop_some hy
  have em : decide ((m : Int) < (c.insts.length : Int)) = true := decide_eq_true (by omega)
  obtain ⟨g0, g1⟩ := hg k c hx g (List.mem_of_getElem? hy)
  obtain ⟨gn, hgn⟩ : ∃ gn : Nat, g = (gn : Int) := ⟨g.toNat, by omega⟩
  have hgl : gn < Z.length := by omega
  have hz : Z[gn]? = some Z[gn] := List.getElem?_eq_getElem hgl
  have hzb := i3 _ (List.mem_of_getElem? hz)
  have hr : (im2 eNum Z)[gn]? = some [vi Z[gn]] := im2_get hz
  rw [hd2] at j4
  simp only [instSum] at j4
  rw [hgn, Int.toNat_natCast, hz] at j4
  simp only [Option.getD_some] at j4
  generalize Z[gn] = z at hz hzb hr j4
  repeat' first
    | refine Z1 ?_ | refine Z2 ?_ | refine Z3 ?_ | refine Z5 ?_ | refine Yf (n := g) gn hgn hgl ?_ | refine Ye hr ?_ | refine Ze ?_ | refine Zf ?_ | refine Zo ?_ | refine ok_seq ?_ | refine ok_reg ?_ | refine Zp ?_
    | refine ok_block ?_ | refine ok_skip ?_ | refine x_normal_then ?_ | refine x_normal_block ?_
  exact ⟨(m + 1, n + z), ⟨hlt2, by simp only; omega, by simp only; omega, j4⟩, by (try simp only); omega, low_mk (Nat.le_of_ble_eq_true rfl) ⟨⟨rfl, rfl⟩, ⟨rfl, rfl⟩, ⟨rfl, rfl⟩, ⟨rfl, rfl⟩, ⟨rfl, rfl⟩, ⟨rfl, rfl⟩, ⟨rfl, rfl⟩, ⟨rfl, rfl⟩, ⟨rfl, rfl⟩, trivial⟩ ⟨⟨rfl, rfl⟩, ⟨rfl, blt_lt rfl, im2_low _ _ _⟩, trivial⟩⟩
end Go.Pm
/- Machines of the specification: bounds. -/
set_option linter.unusedVariables false
set_option linter.unusedSimpArgs false
namespace Go.Pm
attribute [local irreducible] AR Ok inBlock andThen endQ aoper
set_option maxHeartbeats 4000000
open Go.Proofs
def bdD (B : List Int) : Prop := ∀ b ∈ B, 0 ≤ b ∧ b ≤ 400001
theorem callC_nn {B I : List Int} (hB : bdD B) (p : Int) : 0 ≤ callC B I p := by
  unfold callC
  cases hq : B[((I[p.toNat]?).getD 0).toNat]? with
  | none => simp
  | some b => exact (hB b (List.mem_of_getElem? hq)).1
mutual
theorem costB_nn {B I : List Int} (hB : bdD B) : ∀ b : Br, 0 ≤ costB B I b
  | .nd s y n => by
    have h1 := costL_nn (I := I) hB y
    have h2 := costL_nn (I := I) hB n
    have h3 := callC_nn (I := I) hB s.pos
    simp only [costB]
    split
    · omega
    · split <;> omega
theorem costL_nn {B I : List Int} (hB : bdD B) : ∀ l : List Br, 0 ≤ costL B I l
  | [] => by simp [costL]
  | b :: l => by
    have h1 := costB_nn (I := I) hB b
    have h2 := costL_nn (I := I) hB l
    simp only [costL]
    omega
end
theorem ssum_ok (c : Cls) (hwc : wCls c ≤ 1048576) (B : List Int) (hB : bdD B) : ∀ (N : Nat) (l : List Sm) (R : List Br), l.length = N → l.length ≤ 1048576 → growI l = some R → goodL B c.insts R →
    PFun X 44 [.agg ((eCls c).map .d), .d (.im (l.map eSm)), .d (.im (B.map eNum))] (vi (min (costL B c.insts R) 400001)) := by
  intro N
  induction N using Nat.strongRecOn with
  | _ N ih =>
    intro l R hN hl hgr hgd
    have hnn := costL_nn (I := c.insts) hB
    have fin : ∀ {v : Int}, v = min (costL B c.insts R) 400001 → AEnd.ret (vi v) = AEnd.ret (vi (min (costL B c.insts R) 400001)) := fun h => by rw [h]
    refine pfun_of Tryz.func44 rfl (by decide) Tryz.ntmps44 Tryz.results44 (by simp) rfl rfl ?_
    repeat' first
      | refine Z1 ?_ | refine Z2 ?_ | refine Zo ?_ | refine ok_seq ?_ | refine ok_block ?_
    refine ok_for (ι := Nat × Int) (fun x_ => envL [(1, .d (.im (l.map eSm))), (2, .d (.im (B.map eNum))), (3, .ref 0 0), (7, vi x_.2), (8, vi x_.1)]) (fun x_ => stL [some (.var ((eCls c).map .d))]) (fun x_ => x_.1 ≤ l.length ∧ 0 ≤ x_.2 ∧ x_.2 ≤ 400001 ∧ ∃ T, growI (l.drop x_.1) = some T ∧ goodL B c.insts T ∧ min (x_.2 + costL B c.insts T) 400001 = min (costL B c.insts R) 400001) (fun x_ => l.length - x_.1) (0, 0) (⟨Nat.zero_le _, Int.le_refl _, by simp only; omega, R, hgr, hgd, by simp only [Int.zero_add]⟩) (weak_mk rfl ⟨.refl _, .refl _, .refl _, .refl _, .refl _, trivial⟩ ⟨⟨rfl, _, rfl, rfl, fun _ _ _ => .refl _⟩, trivial⟩) (fun _ => Nat.le_refl 1) ?_
    rintro ⟨i, v⟩ ⟨i1, i2, i3, T, i4, i5, i6⟩
    simp only at i1 i2 i3 i4 i5 i6
    rcases hx : l[i]? with _ | s
    · have hle := none_le hx
      have ek : decide ((i : Int) < (l.length : Int)) = false := decide_eq_false (by omega)
      rw [drop_none hx, growI_nil, Option.some.injEq] at i4
      subst i4
      simp only [costL] at i6
      repeat' first
        | refine Z1 ?_ | refine Z2 ?_ | refine Z5 ?_ | refine Zd ?_ | refine Zo ?_ | refine ok_seq ?_ | refine Zq ?_ | refine ok_exit ?_ | refine ok_ret ?_ | refine x_normal_then ?_ | refine x_exit_here ?_ | refine Zv ?_
        | refine Zt ?_
      exact fin (by omega)
    obtain ⟨hd, hlt⟩ := drop_some hx
    have ek : decide ((i : Int) < (l.length : Int)) = true := decide_eq_true (by omega)
    have hsp := grow_spell i4
    rw [hd] at hsp
    by_cases k4 : s.kind = 4
    · have d4 : decide (s.kind = 4) = true := decide_eq_true k4
      obtain ⟨y, e, n, f, r2, Y, N2, T2, hr, h5, h6, hy, hn, ht, hT⟩ := if_inv k4 hsp
      subst hT
      rw [hr] at hd
      have hp : partsS l i = (((i + 1 + y.length : Nat) : Int), ((i + 1 + y.length + 1 + n.length : Nat) : Int)) := by unfold partsS; rw [hd]; exact parts_if k4 h5 h6 hy hn r2 i
      have hps := sparts_ok l i i1 hl
      rw [hp] at hps
      obtain ⟨c0, c1, c2, c3⟩ := cut_parts hd
      simp only [goodL, goodB] at i5
      obtain ⟨⟨g1, g2, g3⟩, g4⟩ := i5
      have hcy := ih y.length (by omega) y Y rfl (by omega) (spell_growI hy) g2
      have hcn := ih n.length (by omega) n N2 rfl (by omega) (spell_growI hn) g3
      have n1 := hnn Y
      have n2 := hnn N2
      have n3 := hnn T2
      simp only [costL, costB] at i6
      rw [if_neg (by omega), if_pos k4] at i6
      generalize hcY : costL B c.insts Y = cY at hcy n1 i6
      generalize hcN : costL B c.insts N2 = cN at hcn n2 i6
      have hgt : growI (l.drop (i + 1 + y.length + 1 + n.length + 1)) = some T2 := by rw [c3]; exact spell_growI ht
      by_cases hmx : min cY 400001 < min cN 400001
      · have em : decide (min cY 400001 < min cN 400001) = true := decide_eq_true hmx
        by_cases hb : 400000 < v + (1 + min cN 400001)
        · have eb : decide (400000 < v + (1 + min cN 400001)) = true := decide_eq_true hb
          repeat' first
            | refine Z1 ?_ | refine Z2 ?_ | refine Z3 ?_ | refine Z5 ?_ | refine Zc (hps) ?_ | refine Zd ?_ | refine Ze ?_ | refine Zf ?_ | refine Zw ?_ | refine Zx ?_
            | refine Zz (Ysl (e := eSm) (l := l) (i + 1) (i + 1 + y.length) y c1 ⟨rfl, rfl⟩) ?_ | refine Zz (Ysl (e := eSm) (l := l) (i + 1 + y.length + 1) (i + 1 + y.length + 1 + n.length) n c2 ⟨rfl, rfl⟩) ?_
            | refine Zz (Zc (hcy) ⟨rfl, rfl⟩) ?_ | refine Zz (Zc (hcn) ⟨rfl, rfl⟩) ?_ | refine Zz (Zf ⟨rfl, rfl⟩) ?_ | refine Zo ?_ | refine ok_seq ?_ | refine ok_reg ?_ | refine ok_draw X_mixed (by decide +kernel) ?_ | refine Zp ?_
            | refine ok_block ?_ | refine ok_skip ?_ | refine x_normal_then ?_ | refine x_normal_block ?_
          exact ⟨(i + 1 + y.length + 1 + n.length + 1, 400001), ⟨by simp only; omega, by simp only; omega, by simp only; omega, T2, hgt, g4, by simp only; omega⟩, by (try simp only); omega, low_mk (Nat.le_of_ble_eq_true rfl) ⟨⟨rfl, rfl⟩, ⟨rfl, rfl⟩, ⟨rfl, rfl⟩, ⟨rfl, rfl⟩, ⟨rfl, rfl⟩, trivial⟩ ⟨⟨rfl, rfl⟩, trivial⟩⟩
        · have eb : decide (400000 < v + (1 + min cN 400001)) = false := decide_eq_false hb
          repeat' first
            | refine Z1 ?_ | refine Z2 ?_ | refine Z3 ?_ | refine Z5 ?_ | refine Zc (hps) ?_ | refine Zd ?_ | refine Ze ?_ | refine Zf ?_ | refine Zw ?_ | refine Zx ?_
            | refine Zz (Ysl (e := eSm) (l := l) (i + 1) (i + 1 + y.length) y c1 ⟨rfl, rfl⟩) ?_ | refine Zz (Ysl (e := eSm) (l := l) (i + 1 + y.length + 1) (i + 1 + y.length + 1 + n.length) n c2 ⟨rfl, rfl⟩) ?_
            | refine Zz (Zc (hcy) ⟨rfl, rfl⟩) ?_ | refine Zz (Zc (hcn) ⟨rfl, rfl⟩) ?_ | refine Zz (Zf ⟨rfl, rfl⟩) ?_ | refine Zo ?_ | refine ok_seq ?_ | refine ok_reg ?_ | refine ok_draw X_mixed (by decide +kernel) ?_ | refine Zp ?_
            | refine Zq ?_ | refine ok_block ?_ | refine ok_skip ?_ | refine x_normal_then ?_ | refine x_normal_block ?_
          exact ⟨(i + 1 + y.length + 1 + n.length + 1, v + (1 + min cN 400001)), ⟨by simp only; omega, by simp only; omega, by simp only; omega, T2, hgt, g4, by simp only; omega⟩, by (try simp only); omega, low_mk (Nat.le_of_ble_eq_true rfl) ⟨⟨rfl, rfl⟩, ⟨rfl, rfl⟩, ⟨rfl, rfl⟩, ⟨rfl, rfl⟩, ⟨rfl, rfl⟩, trivial⟩ ⟨⟨rfl, rfl⟩, trivial⟩⟩
      · have em : decide (min cY 400001 < min cN 400001) = false := decide_eq_false hmx
        by_cases hb : 400000 < v + (1 + min cY 400001)
        · have eb : decide (400000 < v + (1 + min cY 400001)) = true := decide_eq_true hb
          repeat' first
            | refine Z1 ?_ | refine Z2 ?_ | refine Z3 ?_ | refine Z5 ?_ | refine Zc (hps) ?_ | refine Zd ?_ | refine Ze ?_ | refine Zf ?_ | refine Zw ?_ | refine Zx ?_
            | refine Zz (Ysl (e := eSm) (l := l) (i + 1) (i + 1 + y.length) y c1 ⟨rfl, rfl⟩) ?_ | refine Zz (Ysl (e := eSm) (l := l) (i + 1 + y.length + 1) (i + 1 + y.length + 1 + n.length) n c2 ⟨rfl, rfl⟩) ?_
            | refine Zz (Zc (hcy) ⟨rfl, rfl⟩) ?_ | refine Zz (Zc (hcn) ⟨rfl, rfl⟩) ?_ | refine Zz (Zf ⟨rfl, rfl⟩) ?_ | refine Zo ?_ | refine ok_seq ?_ | refine ok_reg ?_ | refine ok_draw X_mixed (by decide +kernel) ?_ | refine Zp ?_
            | refine Zq ?_ | refine ok_block ?_ | refine ok_skip ?_ | refine x_normal_then ?_ | refine x_normal_block ?_
          exact ⟨(i + 1 + y.length + 1 + n.length + 1, 400001), ⟨by simp only; omega, by simp only; omega, by simp only; omega, T2, hgt, g4, by simp only; omega⟩, by (try simp only); omega, low_mk (Nat.le_of_ble_eq_true rfl) ⟨⟨rfl, rfl⟩, ⟨rfl, rfl⟩, ⟨rfl, rfl⟩, ⟨rfl, rfl⟩, ⟨rfl, rfl⟩, trivial⟩ ⟨⟨rfl, rfl⟩, trivial⟩⟩
        · have eb : decide (400000 < v + (1 + min cY 400001)) = false := decide_eq_false hb
          repeat' first
            | refine Z1 ?_ | refine Z2 ?_ | refine Z3 ?_ | refine Z5 ?_ | refine Zc (hps) ?_ | refine Zd ?_ | refine Ze ?_ | refine Zf ?_ | refine Zw ?_ | refine Zx ?_
            | refine Zz (Ysl (e := eSm) (l := l) (i + 1) (i + 1 + y.length) y c1 ⟨rfl, rfl⟩) ?_ | refine Zz (Ysl (e := eSm) (l := l) (i + 1 + y.length + 1) (i + 1 + y.length + 1 + n.length) n c2 ⟨rfl, rfl⟩) ?_
            | refine Zz (Zc (hcy) ⟨rfl, rfl⟩) ?_ | refine Zz (Zc (hcn) ⟨rfl, rfl⟩) ?_ | refine Zz (Zf ⟨rfl, rfl⟩) ?_ | refine Zo ?_ | refine ok_seq ?_ | refine ok_reg ?_ | refine ok_draw X_mixed (by decide +kernel) ?_ | refine Zp ?_
            | refine Zq ?_ | refine ok_block ?_ | refine ok_skip ?_ | refine x_normal_then ?_ | refine x_normal_block ?_
          exact ⟨(i + 1 + y.length + 1 + n.length + 1, v + (1 + min cY 400001)), ⟨by simp only; omega, by simp only; omega, by simp only; omega, T2, hgt, g4, by simp only; omega⟩, by (try simp only); omega, low_mk (Nat.le_of_ble_eq_true rfl) ⟨⟨rfl, rfl⟩, ⟨rfl, rfl⟩, ⟨rfl, rfl⟩, ⟨rfl, rfl⟩, ⟨rfl, rfl⟩, trivial⟩ ⟨⟨rfl, rfl⟩, trivial⟩⟩
    have d4 : decide (s.kind = 4) = false := decide_eq_false k4
    obtain ⟨_, _, T2, ht, hT⟩ := leaf_inv k4 hsp
    subst hT
    simp only [goodL, goodB] at i5
    obtain ⟨⟨g1, _⟩, g4⟩ := i5
    have n3 := hnn T2
    simp only [costL, costB] at i6
    by_cases k3 : s.kind = 3
    · have d3 : decide (s.kind = 3) = true := decide_eq_true k3
      obtain ⟨p0, g, b, hI, g0, hb⟩ := g1 k3
      rw [if_pos k3] at i6
      have hc : callC B c.insts s.pos = b := by unfold callC; rw [hI]; simp only [Option.getD_some]; rw [hb]; rfl
      rw [hc] at i6
      have hbb := hB b (List.mem_of_getElem? hb)
      obtain ⟨p, hp⟩ : ∃ p : Nat, s.pos = (p : Int) := ⟨s.pos.toNat, by omega⟩
      obtain ⟨q, hq⟩ : ∃ q : Nat, g = (q : Int) := ⟨g.toNat, by omega⟩
      rw [hp, Int.toNat_natCast] at hI
      rw [hq, Int.toNat_natCast] at hb
      by_cases hm : 400000 < v + (1 + b)
      · have eb : decide (400000 < v + (1 + b)) = true := decide_eq_true hm
        repeat' first
          | refine Z1 ?_ | refine Z2 ?_ | refine Z3 ?_ | refine Z5 ?_ | refine Zd ?_ | refine Ze ?_ | refine Zf ?_ | refine Zw ?_ | refine Zy ?_ | refine Zz (Yej (e := eNum) (n := s.pos) p hp hI ⟨rfl, rfl⟩) ?_
          | refine Zz (Yej (e := eNum) (n := g) q hq hb ⟨rfl, rfl⟩) ?_ | refine Zz (Ze ⟨rfl, rfl⟩) ?_ | refine Zz (Zf ⟨rfl, rfl⟩) ?_ | refine Zo ?_ | refine ok_seq ?_ | refine ok_reg ?_ | refine ok_draw X_mixed (by decide +kernel) ?_
          | refine Zp ?_ | refine Zq ?_ | refine ok_block ?_ | refine ok_skip ?_ | refine x_normal_then ?_ | refine x_normal_block ?_
        exact ⟨(i + 1, 400001), ⟨hlt, by simp only; omega, by simp only; omega, T2, spell_growI ht, g4, by simp only; omega⟩, by (try simp only); omega, low_mk (Nat.le_of_ble_eq_true rfl) ⟨⟨rfl, rfl⟩, ⟨rfl, rfl⟩, ⟨rfl, rfl⟩, ⟨rfl, rfl⟩, ⟨rfl, rfl⟩, trivial⟩ ⟨⟨rfl, rfl⟩, trivial⟩⟩
      · have eb : decide (400000 < v + (1 + b)) = false := decide_eq_false hm
        repeat' first
          | refine Z1 ?_ | refine Z2 ?_ | refine Z3 ?_ | refine Z5 ?_ | refine Zd ?_ | refine Ze ?_ | refine Zf ?_ | refine Zw ?_ | refine Zy ?_ | refine Zz (Yej (e := eNum) (n := s.pos) p hp hI ⟨rfl, rfl⟩) ?_
          | refine Zz (Yej (e := eNum) (n := g) q hq hb ⟨rfl, rfl⟩) ?_ | refine Zz (Ze ⟨rfl, rfl⟩) ?_ | refine Zz (Zf ⟨rfl, rfl⟩) ?_ | refine Zo ?_ | refine ok_seq ?_ | refine ok_reg ?_ | refine ok_draw X_mixed (by decide +kernel) ?_
          | refine Zp ?_ | refine Zq ?_ | refine ok_block ?_ | refine ok_skip ?_ | refine x_normal_then ?_ | refine x_normal_block ?_
        exact ⟨(i + 1, v + (1 + b)), ⟨hlt, by simp only; omega, by simp only; omega, T2, spell_growI ht, g4, by simp only; omega⟩, by (try simp only); omega, low_mk (Nat.le_of_ble_eq_true rfl) ⟨⟨rfl, rfl⟩, ⟨rfl, rfl⟩, ⟨rfl, rfl⟩, ⟨rfl, rfl⟩, ⟨rfl, rfl⟩, trivial⟩ ⟨⟨rfl, rfl⟩, trivial⟩⟩
    have d3 : decide (s.kind = 3) = false := decide_eq_false k3
    rw [if_neg k3, if_neg k4] at i6
    by_cases hm : 400000 < v + 1
    · have eb : decide (400000 < v + 1) = true := decide_eq_true hm
      repeat' first
        | refine Z1 ?_ | refine Z2 ?_ | refine Z3 ?_ | refine Z5 ?_ | refine Zd ?_ | refine Ze ?_ | refine Zf ?_ | refine Zo ?_ | refine ok_seq ?_ | refine ok_reg ?_ | refine Zp ?_ | refine Zq ?_ | refine ok_block ?_
        | refine ok_skip ?_ | refine x_normal_then ?_ | refine x_normal_block ?_
      exact ⟨(i + 1, 400001), ⟨hlt, by simp only; omega, by simp only; omega, T2, spell_growI ht, g4, by simp only; omega⟩, by (try simp only); omega, low_mk (Nat.le_of_ble_eq_true rfl) ⟨⟨rfl, rfl⟩, ⟨rfl, rfl⟩, ⟨rfl, rfl⟩, ⟨rfl, rfl⟩, ⟨rfl, rfl⟩, trivial⟩ ⟨⟨rfl, rfl⟩, trivial⟩⟩
    · have eb : decide (400000 < v + 1) = false := decide_eq_false hm
      repeat' first
        | refine Z1 ?_ | refine Z2 ?_ | refine Z3 ?_ | refine Z5 ?_ | refine Zd ?_ | refine Ze ?_ | refine Zf ?_ | refine Zo ?_ | refine ok_seq ?_ | refine ok_reg ?_ | refine Zp ?_ | refine Zq ?_ | refine ok_block ?_
        | refine ok_skip ?_ | refine x_normal_then ?_ | refine x_normal_block ?_
      exact ⟨(i + 1, v + 1), ⟨hlt, by simp only; omega, by simp only; omega, T2, spell_growI ht, g4, by simp only; omega⟩, by (try simp only); omega, low_mk (Nat.le_of_ble_eq_true rfl) ⟨⟨rfl, rfl⟩, ⟨rfl, rfl⟩, ⟨rfl, rfl⟩, ⟨rfl, rfl⟩, ⟨rfl, rfl⟩, trivial⟩ ⟨⟨rfl, rfl⟩, trivial⟩⟩
def boundV (B : List Int) (c : Cls) : Int := min (costL B c.insts ((growI c.body).getD [])) 400001
def boundsGo : List Int → List Cls → List Int
  | B, [] => B
  | B, c :: r => boundsGo (B ++ [boundV B c]) r
def boundsS (cs : List Cls) : List Int := boundsGo [] cs
def goodC (k : Nat) (c : Cls) : Prop := (∃ R, growI c.body = some R) ∧ (∀ g ∈ c.insts, 0 ≤ g ∧ g < (k : Int)) ∧ ∀ s ∈ c.body, s.kind = 3 → 0 ≤ s.pos ∧ s.pos < (c.insts.length : Int)
theorem goodC_good {k : Nat} {c : Cls} (h : goodC k c) {B : List Int} (hB : B.length = k) : ∀ s ∈ c.body, goodS B c.insts s := by
  intro s hs h3
  obtain ⟨_, h1, h2⟩ := h
  obtain ⟨g1, g2⟩ := h2 s hs h3
  have hig : c.insts[s.pos.toNat]? = some (c.insts[s.pos.toNat]'(by omega)) := List.getElem?_eq_getElem (by omega)
  obtain ⟨g3, g4⟩ := h1 _ (List.mem_of_getElem? hig)
  exact ⟨g1, _, _, hig, g3, List.getElem?_eq_getElem (by omega)⟩
theorem sbounds_ok (cs : List Cls) (hw : wL wCls cs ≤ 1048576) (hg : ∀ (k : Nat) (c : Cls), cs[k]? = some c → goodC k c) : PFun X 21 [.agg [.d (.im (cs.map eCls))]] (.d (.im ((boundsS cs).map eNum))) := by
  have hcl : cs.length ≤ 1048576 := by simp only [wL] at hw; omega
  refine pfun_of Tryz.func21 rfl (by decide) Tryz.ntmps21 Tryz.results21 (by simp) rfl rfl ?_
  repeat' first
    | refine Z1 ?_ | refine Z2 ?_ | refine Z5 ?_ | refine op_bslice rfl rfl rfl rfl rfl rfl rfl ?_ | refine Zd ?_ | refine Zo ?_ | refine ok_seq ?_ | refine ok_block ?_
  refine ok_forR (ι := Nat × List Int) (fun x_ => envL [(1, .ref 0 0), (3, .sl 1 2 0 x_.2.length), (8, .d (.im (cs.map eCls))), (9, vi cs.length), (10, vi x_.1)]) (fun x_ => stL [some (.var [.d (.im (cs.map eCls))]), some (.row 2 3 1 (im2 eNum x_.2)), none]) (fun x_ => x_.1 ≤ cs.length ∧ x_.2.length = x_.1 ∧ bdD x_.2 ∧ boundsGo x_.2 (cs.drop x_.1) = boundsS cs) (fun x_ => cs.length - x_.1) (0, []) (⟨Nat.zero_le _, rfl, fun x hx => by simp at hx, rfl⟩) Turn.refl (lowR_mk [(2, 1)] rfl rfl rfl ⟨⟨rfl, rfl⟩, ⟨rfl, rfl⟩, ⟨rfl, rfl⟩, ⟨rfl, rfl⟩, ⟨rfl, rfl⟩, trivial⟩ ⟨⟨rfl, rfl⟩, ⟨renO_row rfl (by first | exact im2_ren _ _ _ | rfl), blt_lt rfl, im2_low _ _ _⟩, trivial⟩) ?_
  rintro ⟨k, B⟩ ⟨i1, i2, i3, i5⟩
  simp only at i1 i2 i3 i5
  rcases hx : cs[k]? with _ | c
  · have hle := none_le hx
    have ek : decide ((k : Int) < (cs.length : Int)) = false := decide_eq_false (by omega)
    rw [drop_none hx] at i5
    have i5 : B = boundsS cs := i5
    subst i5
    repeat' first
      | refine Z1 ?_ | refine Z2 ?_ | refine fz_rows (e := eNum) (l := boundsS cs) rfl 2 rfl rfl rfl ?_ | refine Zo ?_ | refine ok_seq ?_ | refine Zq ?_ | refine ok_exit ?_ | refine ok_ret ?_ | refine x_normal_then ?_
      | refine x_exit_here ?_ | refine Zv ?_ | refine Zt ?_
    rfl
  obtain ⟨hd, hlt⟩ := drop_some hx
  have ek : decide ((k : Int) < (cs.length : Int)) = true := decide_eq_true (by omega)
  have hwc : wCls c ≤ 1048576 := by have := wL_mem (w := wCls) (List.mem_of_getElem? hx); simp only [wL] at hw; omega
  have hl := cls_le hwc
  have hgc := hg k c hx
  obtain ⟨R, hR⟩ := hgc.1
  obtain ⟨gg, _⟩ := grow_good (goodC_good hgc i2) hR
  have hsum := ssum_ok c hwc B i3 c.body.length c.body R rfl (by omega) hR gg
  have hbv : boundV B c = min (costL B c.insts R) 400001 := by unfold boundV; rw [hR]; rfl
  have hnn := costL_nn (I := c.insts) i3 R
  rw [← hbv] at hsum
  rw [hd] at i5
  simp only [boundsGo] at i5
  have hpush : bdD (B ++ [boundV B c]) := by
    intro z hz
    rcases List.mem_append.1 hz with h' | h'
    · exact i3 z h'
    · simp only [List.mem_singleton] at h'; subst h'; omega
  repeat' first
    | refine Z1 ?_ | refine Z2 ?_ | refine Z3 ?_ | refine Z4 ?_ | refine Z5 ?_
    | refine Ym (PFun.lendL (args := [.agg ((eCls c).map .d), .d (.im (c.body.map eSm)), .sl 1 2 0 B.length]) hsum ⟨afz_row _, afz_d _, .data (fz_im2 rfl rfl), trivial⟩) ?_ | refine Yl (e := eNum) (l := B) [boundV B c] ?_ | refine Ze ?_
    | refine Zf ?_ | refine Zo ?_ | refine ok_seq ?_ | refine ok_reg ?_ | refine Zp ?_ | refine ok_block ?_ | refine ok_skip ?_ | refine x_normal_then ?_ | refine x_normal_block ?_
  exact ⟨(k + 1, B ++ [boundV B c]), ⟨hlt, by simp [i2], hpush, i5⟩, by (try simp only); omega, lowR_mk [(2, 5)] rfl rfl rfl ⟨⟨rfl, rfl⟩, ⟨rfl, rfl⟩, ⟨rfl, rfl⟩, ⟨rfl, rfl⟩, ⟨rfl, rfl⟩, trivial⟩ ⟨⟨rfl, rfl⟩, ⟨renO_row rfl (by first | exact im2_ren _ _ _ | rfl), blt_lt rfl, im2_low _ _ _⟩, trivial⟩⟩
end Go.Pm
