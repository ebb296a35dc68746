/- cost: what a forest costs, where the bounds of the classes before are known. -/
import Derived.Test.YtaabemmnjhgbgaaGreatDoorA3
import Derived.Test.YtaabemmnjhgbgaaGreatDoorB3
import Derived.Test.YtaabemmnjhgbgaaGreatDoorB4
set_option linter.unusedVariables false
set_option linter.unusedSimpArgs false
namespace Go.Pm
attribute [local irreducible] AR Ok inBlock andThen endQ aoper
set_option maxHeartbeats 1000000
open Go.Proofs
def callC (B I : List Int) (p : Int) : Int := (B[((I[p.toNat]?).getD 0).toNat]?).getD 0
mutual
def costB (B I : List Int) : Br → Int
  | .nd s y n => 1 + (if s.kind = 3 then callC B I s.pos else if s.kind = 4 then max (costL B I y) (costL B I n) else 0)
def costL (B I : List Int) : List Br → Int
  | [] => 0
  | b :: l => costB B I b + costL B I l
end
mutual
def brN : Br → Nat
  | .nd _ y n => 1 + brsN y + brsN n
def brsN : List Br → Nat
  | [] => 0
  | b :: l => brN b + brsN l
end
def goodS (B I : List Int) (s : Sm) : Prop := s.kind = 3 → 0 ≤ s.pos ∧ ∃ g b, I[s.pos.toNat]? = some g ∧ 0 ≤ g ∧ B[g.toNat]? = some b
mutual
def goodB (B I : List Int) : Br → Prop
  | .nd s y n => goodS B I s ∧ goodL B I y ∧ goodL B I n
def goodL (B I : List Int) : List Br → Prop
  | [] => True
  | b :: l => goodB B I b ∧ goodL B I l
end
def bdB (B : List Int) : Prop := ∀ b ∈ B, 0 ≤ b ∧ b ≤ 400000
theorem callC_le {B I : List Int} (hB : bdB B) (p : Int) : 0 ≤ callC B I p ∧ callC B I p ≤ 400000 := by
  unfold callC
  cases hq : B[((I[p.toNat]?).getD 0).toNat]? with
  | none => simp
  | some b => exact hB b (List.mem_of_getElem? hq)
mutual
theorem costB_le {B I : List Int} (hB : bdB B) : ∀ b : Br, 0 ≤ costB B I b ∧ costB B I b ≤ 400001 * (brN b : Int)
  | .nd s y n => by
    have h1 := costL_le (I := I) hB y
    have h2 := costL_le (I := I) hB n
    have h3 := callC_le (I := I) hB s.pos
    simp only [costB, brN]
    split
    · omega
    · split
      · omega
      · omega
theorem costL_le {B I : List Int} (hB : bdB B) : ∀ l : List Br, 0 ≤ costL B I l ∧ costL B I l ≤ 400001 * (brsN l : Int)
  | [] => by simp [costL, brsN]
  | b :: l => by
    have h1 := costB_le (I := I) hB b
    have h2 := costL_le (I := I) hB l
    simp only [costL, brsN]
    omega
end
theorem brsN_mem {b : Br} : ∀ {l : List Br}, b ∈ l → brN b ≤ brsN l
  | c :: l, h => by
    simp only [brsN]
    rcases List.mem_cons.1 h with rfl | h
    · omega
    · have := brsN_mem h; omega
theorem goodL_mem {B I : List Int} {b : Br} : ∀ {l : List Br}, b ∈ l → goodL B I l → goodB B I b
  | c :: l, h, hg => by
    simp only [goodL] at hg
    rcases List.mem_cons.1 h with rfl | h
    · exact hg.1
    · exact goodL_mem h hg.2
theorem brsN_len : ∀ l : List Br, l.length ≤ brsN l
  | [] => Nat.le_refl _
  | b :: l => by
    have := brsN_len l
    have : 1 ≤ brN b := by cases b; simp only [brN]; omega
    simp only [brsN, List.length_cons]; omega
theorem costL_app {B I : List Int} : ∀ (l m : List Br), costL B I (l ++ m) = costL B I l + costL B I m
  | [], m => by simp [costL]
  | b :: l, m => by simp only [List.cons_append, costL, costL_app l m]; omega
/-- The objects that cost looks at. -/
def coO (B : List Int) (z : Nat) (c : Cls) : List (Option AO) :=
  [none, none, none, some (.row 2 3 1 (im2 eNum B)), some (.var [.sl 0 1 0 z, .sl 3 2 0 B.length]), some (.var [.ref 4 0]), some (.var ((eCls c).map .d)), some (.var [.fn 56 [.ref 5 0, .ref 6 0, .ref 7 0]])]
theorem coO_at {B : List Int} {z : Nat} {c : Cls} {j : Nat} {o : AO} (h : ((coO B z c)[j]?).join = some o) : j < 8 ∧ o.low 8 := by
  unfold coO at h
  match j, h with
  | 0, h => cases h
  | 1, h => cases h
  | 2, h => cases h
  | 3, h => cases h; exact ⟨by omega, blt_lt rfl, im2_low _ _ _⟩
  | 4, h => cases h; exact ⟨by omega, rfl⟩
  | 5, h => cases h; exact ⟨by omega, rfl⟩
  | 6, h => cases h; exact ⟨by omega, rfl⟩
  | 7, h => cases h; exact ⟨by omega, rfl⟩
  | j + 8, h => simp at h
def coT (j : Nat) : Prop := j = 3 ∨ j = 4 ∨ j = 5 ∨ j = 6 ∨ j = 7
theorem coO_T {B : List Int} {z : Nat} {c : Cls} {j : Nat} {o : AO} (h : ((coO B z c)[j]?).join = some o) : coT j := by
  have h8 := (coO_at h).1
  unfold coO at h
  match j, h with
  | 0, h => cases h
  | 1, h => cases h
  | 2, h => cases h
  | 3, h => exact .inl rfl
  | 4, h => exact .inr (.inl rfl)
  | 5, h => exact .inr (.inr (.inl rfl))
  | 6, h => exact .inr (.inr (.inr (.inl rfl)))
  | 7, h => exact .inr (.inr (.inr (.inr rfl)))
  | j + 8, h => omega
def coK (r : Int) (B : List Int) (z : Nat) (c : Cls) (E : AEnd) (σ' : St) : Prop := E = .ret (vi r) ∧ ∀ j, j < (coO B z c).length → σ'.obj j = (stL (coO B z c)).obj j
theorem co_lift {B : List Int} {z : Nat} {c : Cls} {l : List Br} {r : Int} (h : AFun X 56 [.d (.im (l.map eBrP)), .ref 5 0, .ref 6 0, .ref 7 0] (stL (coO B z c)) (coK r B z c)) (σ' : St) (hT : ∀ j, coT j → σ'.obj j = (stL (coO B z c)).obj j) :
    AFun X 56 [.d (.im (l.map eBrP)), .ref 5 0, .ref 6 0, .ref 7 0] σ' fun E σ2 => E = .ret (vi r) ∧ σ2 = σ' := by
  refine AFun.wf h.1 fun hwf => ?_
  have h7 : 7 < σ'.next := hwf 7 _ (by rw [hT 7 (.inr (.inr (.inr (.inr rfl))))]; rfl)
  exact AFun.ro (O := coO B z c) h (fun j o ho => (coO_at ho).2) rfl rfl (fun j => j) (fun i j _ _ _ _ e => e) (fun j hj => by have : j < 8 := hj; omega) (fun j o ho => by rw [hT j (coO_T ho), renO_idv]; exact ho)
set_option maxHeartbeats 4000000 in
theorem cost_s (B : List Int) (z : Nat) (c : Cls) (hB : bdB B) : ∀ (N : Nat) (l : List Br), brsN l = N → brsN l ≤ 1048576 → goodL B c.insts l → AFun X 56 [.d (.im (l.map eBrP)), .ref 5 0, .ref 6 0, .ref 7 0] (stL (coO B z c)) (coK (costL B c.insts l) B z c) := by
  intro N
  induction N using Nat.strongRecOn with
  | _ N ih =>
    intro l hN hle hg
    refine afun_of Tryz.func56 rfl (by decide) Tryz.ntmps56 Tryz.results56 (by simp) ?_
    have hll := brsN_len l
    unfold coO
    repeat' first
      | refine Z1 ?_ | refine Z2 ?_ | refine Z5 ?_ | refine Zd ?_ | refine Zo ?_ | refine ok_seq ?_ | refine ok_block ?_
    refine ok_for (ι := Nat × Int) (fun x_ => envL [(0, .d (.im (l.map eBrP))), (1, .ref 5 0), (2, .ref 6 0), (3, .ref 7 0), (6, vi x_.2), (9, .d (.im (l.map eBrP))), (10, vi l.length), (11, vi x_.1)]) (fun x_ => stL [none, none, none, some (.row 2 3 1 (im2 eNum B)), some (.var [.sl 0 1 0 z, .sl 3 2 0 B.length]), some (.var [.ref 4 0]), some (.var ((eCls c).map .d)), some (.var [.fn 56 [.ref 5 0, .ref 6 0, .ref 7 0]])]) (fun x_ => x_.1 ≤ l.length ∧ 0 ≤ x_.2 ∧ x_.2 + costL B c.insts (l.drop x_.1) = costL B c.insts l) (fun x_ => l.length - x_.1) (0, 0) (⟨Nat.zero_le _, Int.le_refl _, by simp⟩) (weak_mk rfl ⟨.refl _, .refl _, .refl _, .refl _, .refl _, .refl _, .refl _, .refl _, trivial⟩ ⟨⟨rfl, _, rfl, rfl, rfl, rfl, rfl⟩, ⟨rfl, _, rfl, rfl, fun _ _ _ => .refl _⟩, ⟨rfl, _, rfl, rfl, fun _ _ _ => .refl _⟩, ⟨rfl, _, rfl, rfl, fun _ _ _ => .refl _⟩, ⟨rfl, _, rfl, rfl, fun _ _ _ => .refl _⟩, trivial⟩) (fun _ => Nat.le_refl 8) ?_
    rintro ⟨k, n⟩ ⟨i1, i2, i3⟩
    simp only at i1 i2 i3
    rcases hx : l[k]? with _ | b
    · have hle := none_le hx
      have ek : decide ((k : Int) < (l.length : Int)) = false := decide_eq_false (by omega)
      rw [drop_none hx] at i3
      simp only [costL, Int.add_zero] at i3
      subst i3
      repeat' first
        | refine Z1 ?_ | refine Z2 ?_ | refine Zo ?_ | refine ok_seq ?_ | refine Zq ?_ | refine ok_exit ?_ | refine ok_ret ?_ | refine x_normal_then ?_ | refine x_exit_here ?_ | refine Zv ?_ | refine Zt ?_
      exact ⟨rfl, fun j hj => rfl⟩
    obtain ⟨hd, hlt⟩ := drop_some hx
    have ek : decide ((k : Int) < (l.length : Int)) = true := decide_eq_true (by omega)
    rw [hd] at i3
    simp only [costL] at i3
    have hmem := List.mem_of_getElem? hx
    have hbn := brsN_mem hmem
    have hgb := goodL_mem hmem hg
    have b1 := costB_le (I := c.insts) hB b
    have b2 := costL_le (I := c.insts) hB (l.drop (k + 1))
    have b3 := costL_le (I := c.insts) hB l
    obtain ⟨s, y, m⟩ := b
    simp only [brN] at hbn
    simp only [goodB] at hgb
    obtain ⟨g1, g2, g3⟩ := hgb
    simp only [costB] at i3 b1
    by_cases k3 : s.kind = 3
    · have d3 : decide (s.kind = 3) = true := decide_eq_true k3
      obtain ⟨g4, g, v, g5, g6, g7⟩ := g1 k3
      rw [if_pos k3] at i3
      have hc : callC B c.insts s.pos = v := by unfold callC; rw [g5]; simp only [Option.getD_some]; rw [g7]; rfl
      rw [hc] at i3
      have hv := hB v (List.mem_of_getElem? g7)
      obtain ⟨p, hp⟩ : ∃ p : Nat, s.pos = (p : Int) := ⟨s.pos.toNat, by omega⟩
      obtain ⟨q, hq⟩ : ∃ q : Nat, g = (q : Int) := ⟨g.toNat, by omega⟩
      rw [hp, Int.toNat_natCast] at g5
      rw [hq, Int.toNat_natCast] at g7
      have hql : q < B.length := (List.getElem?_eq_some_iff.1 g7).1
      have hqr : (im2 eNum B)[q]? = some [vi v] := im2_get g7
      repeat' first
        | refine Z1 ?_ | refine Z2 ?_ | refine Z5 ?_ | refine nil_check ?_ | refine Ze ?_ | refine Zf ?_ | refine Zo ?_ | refine ok_seq ?_ | refine Zp ?_ | refine ok_block ?_ | refine ok_skip ?_ | refine x_normal_then ?_
      refine ok_drawE coT [] X_mixed (by decide +kernel) ?_
      repeat' first
        | refine Wa ?_ | refine Wn ?_ | refine Wl (i := 5) rfl (.inr (.inr (.inl rfl))) ?_ | refine Wr (i := 4) rfl (.inr (.inl rfl)) ?_ | refine Wl (i := 6) rfl (.inr (.inr (.inr (.inl rfl)))) ?_
      refine Wq (fun σ' _ => Ze (k := p) ⟨rfl, rfl⟩ rfl (congrArg vi hp) g5) ?_
      refine Wa ?_
      refine Wq (fun σ' h => Yi1 (n := g) q (h 3 (.inl rfl)) hq hql ⟨rfl, rfl⟩) ?_
      refine Wq (fun σ' h => Ye1 (h 3 (.inl rfl)) hqr ⟨rfl, rfl⟩) ?_
      refine Wq (fun σ' h => Zf ⟨rfl, rfl⟩) ?_
      refine Wa ?_
      refine Wy ?_
      repeat' first
        | refine Z1 ?_ | refine Z2 ?_ | refine Z5 ?_ | refine Zf ?_ | refine ok_reg ?_ | refine x_normal_then ?_ | refine x_normal_block ?_
      exact ⟨(k + 1, n + 1 + v), ⟨hlt, by simp only; omega, by simp only; omega⟩, by (try simp only); omega, low_mk (Nat.le_of_ble_eq_true rfl) ⟨⟨rfl, rfl⟩, ⟨rfl, rfl⟩, ⟨rfl, rfl⟩, ⟨rfl, rfl⟩, ⟨rfl, rfl⟩, ⟨rfl, rfl⟩, ⟨rfl, rfl⟩, ⟨rfl, rfl⟩, trivial⟩ ⟨⟨rfl, blt_lt rfl, im2_low _ _ _⟩, ⟨rfl, rfl⟩, ⟨rfl, rfl⟩, ⟨rfl, rfl⟩, ⟨rfl, rfl⟩, trivial⟩⟩
    have d3 : decide (s.kind = 3) = false := decide_eq_false k3
    rw [if_neg k3] at i3 b1
    by_cases k4 : s.kind = 4
    · have d4 : decide (s.kind = 4) = true := decide_eq_true k4
      rw [if_pos k4] at i3 b1
      have hy := co_lift (ih (brsN y) (by omega) y rfl (by omega) g2)
      have hm := co_lift (ih (brsN m) (by omega) m rfl (by omega) g3)
      rw [← eBrs_map] at hy hm
      repeat' first
        | refine Z1 ?_ | refine Z2 ?_ | refine Z5 ?_ | refine nil_check ?_ | refine Ze ?_ | refine Zf ?_ | refine Zo ?_ | refine ok_seq ?_ | refine Zp ?_ | refine Zq ?_ | refine ok_block ?_ | refine ok_skip ?_
        | refine x_normal_then ?_
      refine ok_drawE coT [] X_mixed (by decide +kernel) ?_
      repeat' first
        | refine Wa ?_ | refine Wn ?_ | refine Wl (i := 7) rfl (.inr (.inr (.inr (.inr rfl)))) ?_
      refine Wc hy ?_
      repeat' first
        | refine Wa ?_ | refine Wn ?_ | refine Wl (i := 7) rfl (.inr (.inr (.inr (.inr rfl)))) ?_
      refine Wc hm ?_
      refine Wq (fun σ' h => Yi ⟨rfl, rfl⟩) ?_
      refine Wq (fun σ' h => Zf ⟨rfl, rfl⟩) ?_
      refine Wa ?_
      refine Wy ?_
      repeat' first
        | refine Z1 ?_ | refine Z2 ?_ | refine Z5 ?_ | refine Zf ?_ | refine ok_reg ?_ | refine x_normal_then ?_ | refine x_normal_block ?_
      exact ⟨(k + 1, n + 1 + max (costL B c.insts y) (costL B c.insts m)), ⟨hlt, by simp only; omega, by simp only; omega⟩, by (try simp only); omega, low_mk (Nat.le_of_ble_eq_true rfl) ⟨⟨rfl, rfl⟩, ⟨rfl, rfl⟩, ⟨rfl, rfl⟩, ⟨rfl, rfl⟩, ⟨rfl, rfl⟩, ⟨rfl, rfl⟩, ⟨rfl, rfl⟩, ⟨rfl, rfl⟩, trivial⟩ ⟨⟨rfl, blt_lt rfl, im2_low _ _ _⟩, ⟨rfl, rfl⟩, ⟨rfl, rfl⟩, ⟨rfl, rfl⟩, ⟨rfl, rfl⟩, trivial⟩⟩
    have d4 : decide (s.kind = 4) = false := decide_eq_false k4
    rw [if_neg k4] at i3 b1
    repeat' first
      | refine Z1 ?_ | refine Z2 ?_ | refine Z5 ?_ | refine nil_check ?_ | refine Ze ?_ | refine Zf ?_ | refine Zo ?_ | refine ok_seq ?_ | refine ok_reg ?_ | refine Zp ?_ | refine Zq ?_ | refine ok_block ?_ | refine ok_skip ?_
      | refine x_normal_then ?_ | refine x_normal_block ?_
    exact ⟨(k + 1, n + 1), ⟨hlt, by simp only; omega, by simp only; omega⟩, by (try simp only); omega, low_mk (Nat.le_of_ble_eq_true rfl) ⟨⟨rfl, rfl⟩, ⟨rfl, rfl⟩, ⟨rfl, rfl⟩, ⟨rfl, rfl⟩, ⟨rfl, rfl⟩, ⟨rfl, rfl⟩, ⟨rfl, rfl⟩, ⟨rfl, rfl⟩, trivial⟩ ⟨⟨rfl, blt_lt rfl, im2_low _ _ _⟩, ⟨rfl, rfl⟩, ⟨rfl, rfl⟩, ⟨rfl, rfl⟩, ⟨rfl, rfl⟩, trivial⟩⟩
end Go.Pm
/- What measured computes. -/
set_option linter.unusedVariables false
set_option linter.unusedSimpArgs false
namespace Go.Pm
abbrev Vm := List (ByteArray × Int)
def wget (W : Vm) (s : ByteArray) : Int := (sfind W s).getD 0
def addOK (F : Vm) (s : ByteArray) : Bool := nameI s && !(sfind F s).isSome
def slotGo (v : Int) : Vm → List Slt → Option Vm
  | F, [] => some F
  | F, x :: l => if addOK F x.name = true ∧ (x.type = 1 ∨ x.type = 2) then slotGo v (sput F x.name v) l else none
def locGo : Vm → List ByteArray → Option Vm
  | F, [] => some F
  | F, x :: l => if addOK F x = true then locGo (sput F x 1) l else none
def instGo (k : Nat) (Z : List Int) : Int → List Int → Option Int
  | n, [] => some n
  | n, g :: l => if g < 0 ∨ (k : Int) ≤ g then none else instGo k Z (n + (Z[g.toNat]?).getD 0) l
def givenI (F W : Vm) (s : ByteArray) : Bool := (sfind F s).isSome && decide ((sfind F s).getD 0 = 1) && decide (wget W s = 0)
def outsGo (F W : Vm) : List (ByteArray × Bool) → List ByteArray → Bool
  | _, [] => true
  | E, x :: l => if givenI F W x = true ∧ (sfind E x).getD false = false then outsGo F W (sput E x true) l else false
def b1 (s : Sm) (m : Nat) : Bool := decide (20 < ((m - 0 : Nat) : Int)) && decide (s.kind ≠ 5) && decide (s.kind ≠ 6)
def b2 (s : Sm) : Bool := (decide (s.kind ≠ 2) && decide (s.kind ≠ 3) && decide (s.pos ≠ 0)) || (decide (s.kind ≠ 1) && decide (s.kind ≠ 4) && decide (s.name ≠ ⟨#[]⟩))
def b3 (s : Sm) : Bool := (decide (s.kind ≠ 3) && (decide (0 < (s.outs.length : Int)) || decide (0 < (s.args.length : Int)))) || (decide (s.kind ≠ 1) && decide (s.kind ≠ 2) && decide (0 < (s.code.length : Int)))
/-- What a statement does to the list of open Ifs and to the counts. -/
def stmI (cs : List Cls) (c : Cls) (F : Vm) (s : Sm) (S : List ByteArray) (W : Vm) : Option (List ByteArray × Vm) :=
  if b1 s S.length = true then none
  else if b2 s = true then none
  else if b3 s = true then none
  else if s.kind = 1 then (if givenI F W s.name = true ∧ codeI F c.mems.length s.code = true then some (S, W) else none)
  else if s.kind = 2 then (if 0 ≤ s.pos ∧ s.pos < (c.mems.length : Int) ∧ codeI F c.mems.length s.code = true then some (S, W) else none)
  else if s.kind = 3 then
    (if 0 ≤ s.pos ∧ s.pos < (c.insts.length : Int) then
      match (c.insts[s.pos.toNat]?).bind (fun g => cs[g.toNat]?) with
      | none => none
      | some d => if s.outs.length = d.outs.length ∧ s.args.length = d.ins.length ∧ outsGo F W [] s.outs = true ∧ s.args.all (codeI F c.mems.length) = true then some (S, W) else none
    else none)
  else if s.kind = 4 then (if (sfind F s.name).isSome = true then some (S ++ [s.name], sput W s.name (wget W s.name + 1)) else none)
  else if s.kind = 5 then some (S, W)
  else if s.kind = 6 then
    match S.getLast? with
    | none => none
    | some x => some (S.dropLast, sput W x (wget W x - 1))
  else none
def bodyGo (cs : List Cls) (c : Cls) (F : Vm) : List Sm → List ByteArray → Vm → Option Unit
  | [], _, _ => some ()
  | s :: l, S, W => (stmI cs c F s S W).bind fun p => bodyGo cs c F l p.1 p.2
def headBad (N : List (ByteArray × Bool)) (c : Cls) : Prop := nameI c.name = false ∨ (sfind N c.name).getD false = true
def sizeBad (c : Cls) : Prop := (c.outs.length : Int) < 1 ∨ 1000 < ((c.ins.length : Int) + c.outs.length + c.locs.length) ∨ 1000 < (c.mems.length : Int) ∨ 1000 < (c.insts.length : Int) ∨ 30000 < (c.body.length : Int)
instance (N : List (ByteArray × Bool)) (c : Cls) : Decidable (headBad N c) := by unfold headBad; infer_instance
instance (c : Cls) : Decidable (sizeBad c) := by unfold sizeBad; infer_instance
/-- From the variables on. -/
def k4 (c : Cls) (B : List Int) (n : Int) (R : List Br) : Option (Int × Int) := if 20000 < n ∨ 400000 < costL B c.insts R then none else some (n, costL B c.insts R)
def k3 (cs : List Cls) (c : Cls) (B : List Int) (F : Vm) (n : Int) : Option (Int × Int) := (bodyGo cs c F c.body [] []).bind fun _ => (growI c.body).bind (k4 c B n)
def k2 (cs : List Cls) (k : Nat) (Z B : List Int) (c : Cls) (F : Vm) : Option (Int × Int) := if c.mems.all valI = false then none else (instGo k Z c.mems.length c.insts).bind (k3 cs c B F)
def slotsGo : Nat → List (List Slt) → Vm → Option Vm
  | _, [], F => some F
  | v, l :: r, F => (slotGo v F l).bind (slotsGo (v + 1) r)
def k0 (cs : List Cls) (k : Nat) (Z B : List Int) (c : Cls) (F : Vm) : Option (Int × Int) := (locGo F c.locs).bind (k2 cs k Z B c)
def k1 (cs : List Cls) (k : Nat) (Z B : List Int) (c : Cls) : Option (Int × Int) := (slotsGo 0 [c.ins, c.outs] []).bind (k0 cs k Z B c)
def classI (cs : List Cls) (k : Nat) (N : List (ByteArray × Bool)) (Z B : List Int) (c : Cls) : Option (Int × Int) := if headBad N c then none else if sizeBad c then none else k1 cs k Z B c
def mGo (cs : List Cls) : Nat → List Cls → List (ByteArray × Bool) → List Int → List Int → Option (List Int × List Int)
  | _, [], _, Z, B => some (Z, B)
  | k, c :: r, N, Z, B => (classI cs k N Z B c).bind fun p => mGo cs (k + 1) r (sput N c.name true) (Z ++ [p.1]) (B ++ [p.2])
def mI (cs : List Cls) : Option (List Int × List Int) := if (cs.length : Int) < 1 ∨ 200 < (cs.length : Int) then none else mGo cs 0 cs [] [] []
def finR : Option (List Int × List Int) → AV
  | none => .tup [.d (.s (.pointer none)), vb false]
  | some (Z, B) => .tup [.d (.ip [.im (Z.map eNum), .im (B.map eNum)] 0), vb true]
end Go.Pm
/- Forests: what holds of the statements holds of the forest; its size. -/
set_option linter.unusedVariables false
set_option linter.unusedSimpArgs false
namespace Go.Pm
def goodF (B I : List Int) : List Fr → Prop
  | [] => True
  | f :: st => (goodS B I f.s ∧ goodL B I f.yes ∧ goodL B I f.no) ∧ goodF B I st
def frN : List Fr → Nat
  | [] => 0
  | f :: st => 1 + brsN f.yes + brsN f.no + frN st
theorem goodL_app {B I : List Int} : ∀ {l m : List Br}, goodL B I l → goodL B I m → goodL B I (l ++ m)
  | [], _, _, h => h
  | b :: l, m, h, h' => by simp only [goodL, List.cons_append] at h ⊢; exact ⟨h.1, goodL_app h.2 h'⟩
theorem brsN_app : ∀ l m : List Br, brsN (l ++ m) = brsN l + brsN m
  | [], m => by simp [brsN]
  | b :: l, m => by simp only [List.cons_append, brsN, brsN_app l m]; omega
theorem putF_good {B I : List Int} {b : Br} (hb : goodB B I b) : ∀ {st : List Fr} {R : List Br}, goodF B I st → goodL B I R → goodF B I (putF b st R).1 ∧ goodL B I (putF b st R).2
  | [], R, hs, hr => ⟨trivial, goodL_app hr ⟨hb, trivial⟩⟩
  | f :: st, R, hs, hr => by
    simp only [putF, goodF] at hs ⊢
    obtain ⟨⟨h1, h2, h3⟩, h4⟩ := hs
    refine ⟨⟨?_, h4⟩, hr⟩
    split
    · exact ⟨h1, h2, goodL_app h3 ⟨hb, trivial⟩⟩
    · exact ⟨h1, goodL_app h2 ⟨hb, trivial⟩, h3⟩
theorem putF_n (b : Br) : ∀ (st : List Fr) (R : List Br), frN (putF b st R).1 + brsN (putF b st R).2 = frN st + brsN R + brN b
  | [], R => by simp only [putF, frN, brsN_app, brsN]; omega
  | f :: st, R => by
    simp only [putF, frN]
    split <;> simp only [brsN_app, brsN] <;> omega
theorem growGo_good {B I : List Int} : ∀ (l : List Sm) (st : List Fr) (R R' : List Br), (∀ s ∈ l, goodS B I s) → goodF B I st → goodL B I R → growGo l st R = some R' → goodL B I R' ∧ brsN R' ≤ l.length + frN st + brsN R
  | [], [], R, R', _, _, h, e => by simp only [growGo, Option.some.injEq] at e; subst e; exact ⟨h, by omega⟩
  | [], _ :: _, R, R', _, _, _, e => by simp [growGo] at e
  | s :: l, st, R, R', hl, hs, hr, e => by
    have hl' : ∀ s ∈ l, goodS B I s := fun u hu => hl u (List.mem_cons_of_mem _ hu)
    have hs0 := hl s List.mem_cons_self
    simp only [growGo] at e
    split at e
    · have := growGo_good l (⟨s, false, [], []⟩ :: st) R R' hl' ⟨⟨hs0, trivial, trivial⟩, hs⟩ hr e
      refine ⟨this.1, ?_⟩
      have h2 := this.2
      simp only [frN, brsN, List.length_cons] at h2 ⊢
      omega
    · split at e
      · cases st with
        | nil => cases e
        | cons f st' =>
          dsimp only at e
          split at e
          · cases e
          · have := growGo_good l ({ f with els := true } :: st') R R' hl' (by simp only [goodF] at hs ⊢; exact hs) hr e
            refine ⟨this.1, ?_⟩
            have h2 := this.2
            simp only [frN, List.length_cons] at h2 ⊢
            omega
      · split at e
        · cases st with
          | nil => cases e
          | cons f st' =>
            dsimp only at e
            split at e
            · simp only [goodF] at hs
              have hb : goodB B I (.nd f.s f.yes f.no) := by simp only [goodB]; exact hs.1
              obtain ⟨g1, g2⟩ := putF_good hb hs.2 hr
              have hn := putF_n (.nd f.s f.yes f.no) st' R
              have := growGo_good l _ _ R' hl' g1 g2 e
              refine ⟨this.1, ?_⟩
              have h2 := this.2
              simp only [brN] at hn
              simp only [frN, List.length_cons] at h2 ⊢
              omega
            · cases e
        · have hb : goodB B I (.nd s [] []) := by simp only [goodB, goodL]; exact ⟨hs0, trivial, trivial⟩
          obtain ⟨g1, g2⟩ := putF_good hb hs hr
          have hn := putF_n (.nd s [] []) st R
          have := growGo_good l _ _ R' hl' g1 g2 e
          refine ⟨this.1, ?_⟩
          have h2 := this.2
          simp only [brN, brsN] at hn
          simp only [List.length_cons] at h2 ⊢
          omega
theorem grow_good {B I : List Int} {l : List Sm} {R : List Br} (hl : ∀ s ∈ l, goodS B I s) (e : growI l = some R) : goodL B I R ∧ brsN R ≤ l.length := by
  have := growGo_good l [] [] R hl trivial trivial e
  simpa [frN, brsN] using this
/-- cost, called where the objects lie as measured has them. -/
def coP (j : Nat) : Nat := match j with | 0 => 4 | 1 => 6 | 2 => 7 | 3 => 5 | 4 => 1 | 5 => 2 | 6 => 8 | 7 => 16 | j + 8 => j + 17
theorem coP_inj : ∀ i, i < 8 → ∀ j, j < 8 → coP i = coP j → i = j := by decide
theorem coP_lt : ∀ i, i < 8 → coP i < 17 := by decide
theorem cost_at {B : List Int} {z : Nat} {c : Cls} (hB : bdB B) {R : List Br} (hn : brsN R ≤ 1048576) (hg : goodL B c.insts R) {σ : St} (hnx : Nat.ble 17 σ.next = true) (h1 : σ.obj 1 = some (.var [.sl 4 6 0 z, .sl 5 7 0 B.length])) (h2 : σ.obj 2 = some (.var [.ref 1 0])) (h5 : σ.obj 5 = some (.row 7 3 1 (im2 eNum B))) (h8 : σ.obj 8 = some (.var ((eCls c).map .d)))
    (h16 : σ.obj 16 = some (.var [.fn 56 [.ref 2 0, .ref 8 0, .ref 16 0]])) : AFun X 56 [.d (.im (R.map eBrP)), .ref 2 0, .ref 8 0, .ref 16 0] σ fun E σ2 => E = .ret (vi (costL B c.insts R)) ∧ σ2 = σ := by
  have hnx := Nat.le_of_ble_eq_true hnx
  refine AFun.ro (O := coO B z c) (cost_s B z c hB (brsN R) R rfl hn hg) (fun j o ho => (coO_at ho).2) rfl rfl coP (fun i j _ _ hi hj e => coP_inj i (coO_at hi).1 j (coO_at hj).1 e) (fun j hj => by have := coP_lt j hj; omega) (fun j o ho => ?_)
  have h8' := (coO_at ho).1
  unfold coO at ho
  match j, ho with
  | 0, h => cases h
  | 1, h => cases h
  | 2, h => cases h
  | 3, h => cases h; exact h5.trans (renO_row rfl (im2_ren _ _ _))
  | 4, h => cases h; exact h1
  | 5, h => cases h; exact h2
  | 6, h => cases h; exact h8
  | 7, h => cases h; exact h16
  | j + 8, h => omega
theorem app4 {X : Cfg} {Q : Exit → Env → St → Prop} {K : AV → St → Prop} {env : Env} {σ : St} {α : Type} {e : α → List D} {l : List α} {y : α} {i h k v t tx el sz : Nat} {ti te tix : TI} {s x : Operand} {ars : Array Operand} {ts : Array TypeId} (ho : σ.obj i = some (.row h el sz (im2 e l))) (hk : σ.obj k = some (.row v el sz [(e y).map .d])) (hf : ∀ z, (e z).length = sz)
    (hK : K (.sl i σ.next 0 (l ++ [y]).length) (bumpSet σ i (.row σ.next el sz (im2 e (l ++ [y])))))
    (h1 : ars.toList = [s, x] := by exact rfl) (h2 : ts.toList = [t, tx] := by exact rfl) (hs : aev X env s = .sl i h 0 l.length := by exact rfl) (hx : aev X env x = .sl k v 0 1 := by exact rfl) (ht : X.T t = some ti := by exact rfl) (hkd : ti.kind = .slice el := by exact rfl) (hte : X.T el = some te := by exact rfl) (hsz : te.size = sz := by exact rfl) (hp : Nat.blt 0 sz = true := by exact rfl)
    (hpb : Nat.blt 0 te.bytes = true := by exact rfl) (htx : X.T tx = some tix := by exact rfl) (hkx : tix.kind = .slice el := by exact rfl) (hbb : Nat.ble te.bytes 1024 = true := by exact rfl) (hb : l.length ≤ 2097152 := by omega) : aoper X (.call ⟨.builtin .append, ars, ts⟩) env σ Q K :=
  app3 ho hk hf (by rw [List.length_append] at hK; exact hK) h1 h2 hs hx ht hkd hte hsz hp hpb htx hkx hbb hb
end Go.Pm
/- measured: its closures add and given. -/
set_option linter.unusedVariables false
set_option linter.unusedSimpArgs false
namespace Go.Pm
attribute [local irreducible] AR Ok inBlock andThen endQ aoper
set_option maxHeartbeats 1000000
open Go.Proofs
theorem take_push {α : Type} {l : List α} {k : Nat} {x : α} (h : l[k]? = some x) : l.take (k + 1) = l.take k ++ [x] := by rw [List.take_add_one, h]; rfl
theorem add_ok {σ : St} {i j : Nat} {F : Vm} (h1 : σ.obj i = some (.var [.mp j])) (h2 : σ.obj j = some (.map .string (smap vi F))) (s : ByteArray) (v : Int) :
    AFun X 51 [vs s, vi v, .ref i 0] σ fun E σ' => E = .ret (vb (addOK F s)) ∧ σ' = σ.set j (.map .string (smap vi (sput F s v))) := by
  have hij : i ≠ j := fun e => by rw [e, h2] at h1; cases h1
  have h3 : ∀ o, (σ.set j o).obj i = some (.var [.mp j]) := fun o => by rw [St.obj_set, if_neg hij]; exact h1
  refine afun_of Tryz.func51 rfl (by decide) Tryz.ntmps51 Tryz.results51 (by simp) ?_
  cases n1 : nameI s with
  | false =>
    repeat' first
      | refine Z1 ?_ | refine Z2 ?_ | refine Z3 ?_ | refine Z4 ?_ | refine Z5 ?_ | refine Z6 ?_ | refine Z7 ?_ | refine Z8 ?_ | refine Z9 ?_ | refine Za (fun hc => ?_) (fun hc => ?_) | refine Zb (fun hc => ?_) (fun hc => ?_)
      | refine Ys h1 ?_ | refine Ya (e := vi) (i := j) (ho := h2) ?_ | refine Yc (e := vi) (b := v) (i := j) (ho := h2) ?_ | refine Zc (name_ok s) ?_ | refine Zd ?_ | refine Ze ?_ | refine Zf ?_ | refine Zg ?_ | refine Zh ?_ | refine Zi ?_
      | refine Zj ?_ | refine Zk ?_ | refine Zl ?_ | refine Zm ?_ | refine Zn (fun hc => ?_) (fun hc => ?_) | refine Zo ?_ | refine ok_seq ?_ | refine ok_reg ?_ | refine Zp ?_ | refine Zq ?_ | refine Zr (fun hc => ?_) (fun hc => ?_)
      | refine ok_block ?_ | refine ok_exit ?_ | refine ok_skip ?_ | refine ok_ret ?_ | refine x_normal_then ?_ | refine x_exit_here ?_ | refine Zs ?_ | refine Zv ?_ | refine x_ret_then ?_ | refine x_ret_block ?_ | refine x_normal_block ?_
      | refine Zt ?_ | refine Zu ?_
    exact ⟨by simp only [addOK, n1]; rfl, rfl⟩
  | true =>
    repeat' first
      | refine Z1 ?_ | refine Z2 ?_ | refine Z3 ?_ | refine Z4 ?_ | refine Z5 ?_ | refine Z6 ?_ | refine Z7 ?_ | refine Z8 ?_ | refine Z9 ?_ | refine Za (fun hc => ?_) (fun hc => ?_) | refine Zb (fun hc => ?_) (fun hc => ?_)
      | refine Ys h1 ?_ | refine Ya (e := vi) (i := j) (ho := h2) ?_ | refine Yc (e := vi) (b := v) (i := j) (ho := h2) ?_ | refine Zc (name_ok s) ?_ | refine Zd ?_ | refine Ze ?_ | refine Zf ?_ | refine Zg ?_ | refine Zh ?_ | refine Zi ?_
      | refine Zj ?_ | refine Zk ?_ | refine Zl ?_ | refine Zm ?_ | refine Zn (fun hc => ?_) (fun hc => ?_) | refine Zo ?_ | refine ok_seq ?_ | refine ok_reg ?_ | refine Zp ?_ | refine Zq ?_ | refine Zr (fun hc => ?_) (fun hc => ?_)
      | refine ok_block ?_ | refine ok_exit ?_ | refine ok_skip ?_ | refine ok_ret ?_ | refine x_normal_then ?_ | refine x_exit_here ?_ | refine Zs ?_ | refine Zv ?_ | refine x_ret_then ?_ | refine x_ret_block ?_ | refine x_normal_block ?_
      | refine Zt ?_ | refine Zu ?_
    exact ⟨by simp only [addOK, n1]; rfl, rfl⟩
theorem given_ok {σ : St} {i j i' j' : Nat} {F W : Vm} (h1 : σ.obj i = some (.var [.mp j])) (h2 : σ.obj j = some (.map .string (smap vi F))) (h3 : σ.obj i' = some (.var [.mp j'])) (h4 : σ.obj j' = some (.map .string (smap vi W))) (s : ByteArray) :
    AFun X 53 [vs s, .ref i 0, .ref i' 0] σ fun E σ' => E = .ret (vb (givenI F W s)) ∧ σ' = σ := by
  refine afun_of Tryz.func53 rfl (by decide) Tryz.ntmps53 Tryz.results53 (by simp) ?_
  cases n1 : (sfind F s).isSome with
  | false =>
    repeat' first
      | refine Z1 ?_ | refine Z2 ?_ | refine Z3 ?_ | refine Z4 ?_ | refine Z5 ?_ | refine Z6 ?_ | refine Z7 ?_ | refine Z8 ?_ | refine Z9 ?_ | refine Za (fun hc => ?_) (fun hc => ?_) | refine Zb (fun hc => ?_) (fun hc => ?_)
      | refine Ys h1 ?_ | refine Ys h3 ?_ | refine Ya (e := vi) (i := j) (ho := h2) ?_ | refine Yb (e := vi) (i := j') (ho := h4) ?_ | refine Zd ?_ | refine Ze ?_ | refine Zf ?_ | refine Zg ?_ | refine Zh ?_ | refine Zi ?_ | refine Zj ?_
      | refine Zk ?_ | refine Zl ?_ | refine Zm ?_ | refine Zn (fun hc => ?_) (fun hc => ?_) | refine Zo ?_ | refine ok_seq ?_ | refine ok_reg ?_ | refine Zp ?_ | refine Zq ?_ | refine Zr (fun hc => ?_) (fun hc => ?_) | refine ok_block ?_
      | refine ok_exit ?_ | refine ok_skip ?_ | refine ok_ret ?_ | refine x_normal_then ?_ | refine x_exit_here ?_ | refine Zs ?_ | refine Zv ?_ | refine x_ret_then ?_ | refine x_ret_block ?_ | refine x_normal_block ?_ | refine Zt ?_
      | refine Zu ?_
    exact ⟨by simp only [givenI, n1]; rfl, rfl⟩
  | true =>
    cases n2 : decide ((sfind F s).getD 0 = 1) with
    | false =>
      repeat' first
        | refine Z1 ?_ | refine Z2 ?_ | refine Z3 ?_ | refine Z4 ?_ | refine Z5 ?_ | refine Z6 ?_ | refine Z7 ?_ | refine Z8 ?_ | refine Z9 ?_ | refine Za (fun hc => ?_) (fun hc => ?_) | refine Zb (fun hc => ?_) (fun hc => ?_)
        | refine Ys h1 ?_ | refine Ys h3 ?_ | refine Ya (e := vi) (i := j) (ho := h2) ?_ | refine Yb (e := vi) (i := j') (ho := h4) ?_ | refine Zd ?_ | refine Ze ?_ | refine Zf ?_ | refine Zg ?_ | refine Zh ?_ | refine Zi ?_ | refine Zj ?_
        | refine Zk ?_ | refine Zl ?_ | refine Zm ?_ | refine Zn (fun hc => ?_) (fun hc => ?_) | refine Zo ?_ | refine ok_seq ?_ | refine ok_reg ?_ | refine Zp ?_ | refine Zq ?_ | refine Zr (fun hc => ?_) (fun hc => ?_) | refine ok_block ?_
        | refine ok_exit ?_ | refine ok_skip ?_ | refine ok_ret ?_ | refine x_normal_then ?_ | refine x_exit_here ?_ | refine Zs ?_ | refine Zv ?_ | refine x_ret_then ?_ | refine x_ret_block ?_ | refine x_normal_block ?_ | refine Zt ?_
        | refine Zu ?_
      exact ⟨by simp only [givenI, n1, n2]; rfl, rfl⟩
    | true =>
      repeat' first
        | refine Z1 ?_ | refine Z2 ?_ | refine Z3 ?_ | refine Z4 ?_ | refine Z5 ?_ | refine Z6 ?_ | refine Z7 ?_ | refine Z8 ?_ | refine Z9 ?_ | refine Za (fun hc => ?_) (fun hc => ?_) | refine Zb (fun hc => ?_) (fun hc => ?_)
        | refine Ys h1 ?_ | refine Ys h3 ?_ | refine Ya (e := vi) (i := j) (ho := h2) ?_ | refine Yb (e := vi) (i := j') (ho := h4) ?_ | refine Zd ?_ | refine Ze ?_ | refine Zf ?_ | refine Zg ?_ | refine Zh ?_ | refine Zi ?_ | refine Zj ?_
        | refine Zk ?_ | refine Zl ?_ | refine Zm ?_ | refine Zn (fun hc => ?_) (fun hc => ?_) | refine Zo ?_ | refine ok_seq ?_ | refine ok_reg ?_ | refine Zp ?_ | refine Zq ?_ | refine Zr (fun hc => ?_) (fun hc => ?_) | refine ok_block ?_
        | refine ok_exit ?_ | refine ok_skip ?_ | refine ok_ret ?_ | refine x_normal_then ?_ | refine x_exit_here ?_ | refine Zs ?_ | refine Zv ?_ | refine x_ret_then ?_ | refine x_ret_block ?_ | refine x_normal_block ?_ | refine Zt ?_
        | refine Zu ?_
      exact ⟨by simp only [givenI, n1, n2]; rfl, rfl⟩
end Go.Pm
