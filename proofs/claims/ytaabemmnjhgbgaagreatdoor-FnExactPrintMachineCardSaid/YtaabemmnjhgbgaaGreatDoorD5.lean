/- The specification's words for numbers and signs. -/
import Derived.Test.YtaabemmnjhgbgaaGreatDoorA4
import Derived.Test.YtaabemmnjhgbgaaGreatDoorD4
import Derived.Lib.ItoaLen
set_option linter.unusedVariables false
set_option linter.unusedSimpArgs false
namespace Go.Pm
attribute [local irreducible] AR Ok inBlock andThen endQ aoper
set_option maxHeartbeats 2000000
open Go.Proofs
def digB : ByteArray := B [48, 49, 50, 51, 52, 53, 54, 55, 56, 57]
theorem dig_ex : ∀ d : Nat, d < 10 → digB.extract d (d + 1) = B [UInt8.ofNat (48 + d)] := by
  intro d hd
  have h : ∀ d : Fin 10, digB.extract d.val (d.val + 1) = B [UInt8.ofNat (48 + d.val)] := by decide
  exact h ⟨d, hd⟩
theorem itoaB_small {k : Nat} (h : k < 10) : itoaB (k : Int) = B [UInt8.ofNat (48 + k)] := by
  unfold itoaB B; rw [Lib.itoa_nonneg, Lib.decDigits, dif_pos h]
theorem itoaB_big {k : Nat} (h : ¬ k < 10) : itoaB (k : Int) = itoaB ((k / 10 : Nat) : Int) ++ B [UInt8.ofNat (48 + k % 10)] := by
  unfold itoaB B; rw [Lib.itoa_nonneg, Lib.itoa_nonneg, Lib.decDigits, dif_neg h]
  apply ByteArray.ext
  simp [ByteArray.data_append]
theorem itoaB_neg {k : Nat} (h : 1 ≤ k) : itoaB (-(k : Int)) = B [45] ++ itoaB (k : Int) := by
  unfold itoaB B; rw [Lib.itoa_nonneg, Lib.itoa_neg k h]
  apply ByteArray.ext
  simp [ByteArray.data_append]
theorem itoaB_len (n : Int) (h0 : -9223372036854775808 ≤ n) (h1 : n ≤ 9223372036854775807) : (itoaB n).size ≤ 21 := by
  have := Lib.itoa_length_le n h0 h1
  exact this
theorem dec_nat (k : Nat) : (k : Int) ≤ 9223372036854775807 → PFun X 12 [vi (k : Int)] (vs (itoaB (k : Int))) := by
  induction k using Nat.strongRecOn with
  | _ k ih =>
  intro hk
  have e1 : decide ((k : Int) < 0) = false := decide_eq_false (by omega)
  by_cases h : k < 10
  · have e2 : decide ((k : Int) < 10) = true := decide_eq_true (by omega)
    have e3 := dig_ex k h
    have e4 : digB.size = 10 := rfl
    rw [itoaB_small h]
    refine pfun_of Tryz.func12 rfl (by decide) Tryz.ntmps12 Tryz.results12 (by simp) rfl rfl ?_
    repeat' first
      | refine Z1 ?_ | refine Z2 ?_ | refine Z5 ?_ | refine Un (s := digB) (m := (k : Int)) k (k + 1) e3 ?_ | refine Zf ?_ | refine Zo ?_ | refine ok_seq ?_ | refine Zp ?_ | refine Zq ?_ | refine ok_skip ?_ | refine ok_ret ?_
      | refine x_normal_then ?_ | refine x_ret_then ?_ | refine Zt ?_
    rfl
  · have e2 : decide ((k : Int) < 10) = false := decide_eq_false (by omega)
    have q1 : (k : Int).tdiv 10 = ((k / 10 : Nat) : Int) := by rw [Int.tdiv_eq_ediv_of_nonneg (by omega)]; omega
    have q2 : (k : Int).tmod 10 = ((k % 10 : Nat) : Int) := by rw [Int.tmod_eq_emod_of_nonneg (by omega)]; omega
    have ihk := ih (k / 10) (by omega) (by omega)
    have q3 : IntKind.i64.wrap ((k : Int).tdiv 10) = ((k / 10 : Nat) : Int) := by rw [q1]; exact wrap_id (by omega) (by omega)
    have ihk : PFun X 12 [vi (IntKind.i64.wrap ((k : Int).tdiv 10))] (vs (itoaB ((k / 10 : Nat) : Int))) := by rw [q3]; exact ihk
    have e3 := dig_ex (k % 10) (by omega)
    have e4 : digB.size = 10 := rfl
    rw [itoaB_big h]
    have hz := itoaB_len ((k / 10 : Nat) : Int) (by omega) (by omega)
    have hz2 : (itoaB ((k / 10 : Nat) : Int) ++ B [UInt8.ofNat (48 + k % 10)]).size ≤ 9223372036854775807 := by
      rw [ByteArray.size_append]
      have : (B [UInt8.ofNat (48 + k % 10)]).size = 1 := rfl
      omega
    refine pfun_of Tryz.func12 rfl (by decide) Tryz.ntmps12 Tryz.results12 (by simp) rfl rfl ?_
    repeat' first
      | refine Z1 ?_ | refine Z2 ?_ | refine Zw ?_ | refine Zx ?_ | refine Zz (Zc (ihk) ⟨rfl, rfl⟩) ?_ | refine Zz (Un (s := digB) (k % 10) (k % 10 + 1) e3 ⟨rfl, rfl⟩) ?_
      | refine Zz (Ul (a := itoaB ((k / 10 : Nat) : Int)) (b := B [UInt8.ofNat (48 + k % 10)]) (hb := hz2) ⟨rfl, rfl⟩) ?_ | refine Zz (Zf ⟨rfl, rfl⟩) ?_ | refine Zo ?_ | refine ok_seq ?_ | refine ok_draw X_mixed (by decide +kernel) ?_
      | refine Zq ?_ | refine ok_skip ?_ | refine ok_ret ?_ | refine x_normal_then ?_ | refine Zt ?_
    rfl
theorem dec_ok (n : Int) (h0 : -9223372036854775807 ≤ n) (h1 : n ≤ 9223372036854775807) : PFun X 12 [vi n] (vs (itoaB n)) := by
  by_cases hn : n < 0
  · obtain ⟨k, rfl⟩ : ∃ k : Nat, n = -(k : Int) := ⟨n.natAbs, by omega⟩
    have hk := dec_nat k (by omega)
    have q : IntKind.i64.wrap (0 - -(k : Int)) = (k : Int) := by rw [wrap_id (by omega) (by omega)]; omega
    have hk : PFun X 12 [vi (IntKind.i64.wrap (0 - -(k : Int)))] (vs (itoaB (k : Int))) := by rw [q]; exact hk
    have e1 : decide (-(k : Int) < 0) = true := decide_eq_true hn
    have hz := itoaB_len (k : Int) (by omega) (by omega)
    have hz2 : (B [45] ++ itoaB (k : Int)).size ≤ 9223372036854775807 := by
      rw [ByteArray.size_append]
      have : (B [45]).size = 1 := rfl
      omega
    rw [itoaB_neg (by omega)]
    refine pfun_of Tryz.func12 rfl (by decide) Tryz.ntmps12 Tryz.results12 (by simp) rfl rfl ?_
    repeat' first
      | refine Z1 ?_ | refine Z2 ?_ | refine Z5 ?_ | refine Zc (hk) ?_ | refine Ul (a := B [45]) (b := itoaB (k : Int)) (hb := hz2) ?_ | refine Zo ?_ | refine ok_seq ?_ | refine Zp ?_ | refine ok_ret ?_ | refine x_ret_then ?_
      | refine Zt ?_
    rfl
  · obtain ⟨k, rfl⟩ : ∃ k : Nat, n = (k : Int) := ⟨n.toNat, by omega⟩
    exact dec_nat k h1
theorem flag_ok (v : Int) : PFun X 71 [vi v] (vs (boolT v)) := by
  refine pfun_of Tryz.func71 rfl (by decide) Tryz.ntmps71 Tryz.results71 (by simp) rfl rfl ?_
  by_cases h : v ≠ 0
  · have e : decide (v ≠ 0) = true := decide_eq_true h
    have hb : boolT v = B [116, 114, 117, 101] := if_pos h
    repeat' first
      | refine Z1 ?_ | refine Z2 ?_ | refine Zo ?_ | refine ok_seq ?_ | refine Zp ?_ | refine ok_ret ?_ | refine x_ret_then ?_ | refine Zt ?_
    rw [hb]; rfl
  · have e : decide (v ≠ 0) = false := decide_eq_false h
    have hb : boolT v = B [102, 97, 108, 115, 101] := if_neg h
    repeat' first
      | refine Z1 ?_ | refine Z2 ?_ | refine Zo ?_ | refine ok_seq ?_ | refine Zq ?_ | refine ok_skip ?_ | refine ok_ret ?_ | refine x_normal_then ?_ | refine Zt ?_
    rw [hb]; rfl
theorem typ_ok (v : Int) : PFun X 11 [vi v] (vs (tyT v)) := by
  refine pfun_of Tryz.func11 rfl (by decide) Tryz.ntmps11 Tryz.results11 (by simp) rfl rfl ?_
  by_cases h : v = 1
  · have e : decide (v = 1) = true := decide_eq_true h
    have hb : tyT v = B [105, 110, 116] := if_pos h
    repeat' first
      | refine Z1 ?_ | refine Z2 ?_ | refine Zo ?_ | refine ok_seq ?_ | refine Zp ?_ | refine ok_ret ?_ | refine x_ret_then ?_ | refine Zt ?_
    rw [hb]; rfl
  · have e : decide (v = 1) = false := decide_eq_false h
    have hb : tyT v = B [98, 111, 111, 108] := if_neg h
    repeat' first
      | refine Z1 ?_ | refine Z2 ?_ | refine Zo ?_ | refine ok_seq ?_ | refine Zq ?_ | refine ok_skip ?_ | refine ok_ret ?_ | refine x_normal_then ?_ | refine Zt ?_
    rw [hb]; rfl
def opsT (k : Int) : List (ByteArray × Int) :=
  if k = 1 then [(B [111, 114], 18), (B [120, 111, 114], 19)] else if k = 2 then [(B [97, 110, 100], 17)]
  else if k = 3 then [(B [61], 11), (B [60, 62], 12), (B [60], 13), (B [60, 61], 14), (B [62], 15), (B [62, 61], 16)]
  else if k = 4 then [(B [43], 6), (B [45], 7)] else [(B [42], 8), (B [47], 9), (B [109, 111, 100], 10)]
theorem ops_ok (k : Int) : PFun X 90 [vi k] (.tup [.d (.im (((opsT k).map (·.1)).map eStr)), .d (.im (((opsT k).map (·.2)).map eNum))]) := by
  refine pfun_of Tryz.func90 rfl (by decide) Tryz.ntmps90 Tryz.results90 (by simp) rfl rfl ?_
  unfold opsT
  by_cases h1 : k = 1
  · have d1 : decide (k = 1) = true := decide_eq_true h1
    rw [if_pos h1]
    repeat' first
      | refine Z1 ?_ | refine Z2 ?_ | refine Z4 ?_ | refine ret2 ?_ | refine Zo ?_ | refine ok_seq ?_ | refine Zp ?_ | refine ok_block ?_ | refine ok_ret ?_ | refine x_ret_then ?_ | refine x_ret_block ?_
    rfl
  have d1 : decide (k = 1) = false := decide_eq_false h1
  rw [if_neg h1]
  by_cases h2 : k = 2
  · have d2 : decide (k = 2) = true := decide_eq_true h2
    rw [if_pos h2]
    repeat' first
      | refine Z1 ?_ | refine Z2 ?_ | refine Z4 ?_ | refine ret2 ?_ | refine Zo ?_ | refine ok_seq ?_ | refine Zp ?_ | refine Zq ?_ | refine ok_block ?_ | refine ok_ret ?_ | refine x_ret_then ?_ | refine x_ret_block ?_
    rfl
  have d2 : decide (k = 2) = false := decide_eq_false h2
  rw [if_neg h2]
  by_cases h3 : k = 3
  · have d3 : decide (k = 3) = true := decide_eq_true h3
    rw [if_pos h3]
    repeat' first
      | refine Z1 ?_ | refine Z2 ?_ | refine Z4 ?_ | refine ret2 ?_ | refine Zo ?_ | refine ok_seq ?_ | refine Zp ?_ | refine Zq ?_ | refine ok_block ?_ | refine ok_ret ?_ | refine x_ret_then ?_ | refine x_ret_block ?_
    rfl
  have d3 : decide (k = 3) = false := decide_eq_false h3
  rw [if_neg h3]
  by_cases h4 : k = 4
  · have d4 : decide (k = 4) = true := decide_eq_true h4
    rw [if_pos h4]
    repeat' first
      | refine Z1 ?_ | refine Z2 ?_ | refine Z4 ?_ | refine ret2 ?_ | refine Zo ?_ | refine ok_seq ?_ | refine Zp ?_ | refine Zq ?_ | refine ok_block ?_ | refine ok_ret ?_ | refine x_ret_then ?_ | refine x_ret_block ?_
    rfl
  have d4 : decide (k = 4) = false := decide_eq_false h4
  rw [if_neg h4]
  repeat' first
    | refine Z1 ?_ | refine Z2 ?_ | refine Z4 ?_ | refine ret2 ?_ | refine Zo ?_ | refine ok_seq ?_ | refine Zq ?_ | refine ok_block ?_ | refine ok_skip ?_ | refine ok_ret ?_ | refine x_normal_then ?_ | refine x_normal_block ?_
  rfl
def signGo (op : Int) : List (ByteArray × Int) → Option ByteArray
  | [] => none
  | x :: l => if x.2 = op then some x.1 else signGo op l
def signF (op : Int) : Nat → Nat → ByteArray
  | 0, _ => B []
  | f + 1, k => match signGo op (opsT (k : Int)) with | some s => s | none => signF op f (k + 1)
theorem ops_len (k : Int) : (opsT k).length ≤ 6 := by
  unfold opsT
  repeat' split
  all_goals simp
theorem sign_ok (op : Int) : PFun X 72 [vi op] (vs (signF op 5 1)) := by
  refine pfun_of Tryz.func72 rfl (by decide) Tryz.ntmps72 Tryz.results72 (by simp) rfl rfl ?_
  repeat' first
    | refine Z1 ?_ | refine Z2 ?_ | refine Zo ?_ | refine ok_seq ?_ | refine ok_block ?_
  refine ok_for (ι := Nat) (fun x => envL [(0, vi op), (3, vi x)]) (fun x => stL []) (fun x => x ≤ 6 ∧ 1 ≤ x ∧ signF op (6 - x) x = signF op 5 1) (fun x => 6 - x) 1 (⟨by decide, by decide, rfl⟩) (weak_mk rfl ⟨.refl _, .refl _, trivial⟩ trivial) (fun _ => Nat.le_refl 0) ?_
  rintro k ⟨i1, i2, i3⟩
  by_cases h : k < 6
  rotate_left
  · have ek : decide ((k : Int) ≤ 5) = false := decide_eq_false (by omega)
    have : 6 - k = 0 := by omega
    rw [this] at i3
    repeat' first
      | refine Z1 ?_ | refine Z2 ?_ | refine Zo ?_ | refine ok_seq ?_ | refine Zq ?_ | refine ok_exit ?_ | refine ok_ret ?_ | refine x_normal_then ?_ | refine x_exit_here ?_ | refine Zv ?_ | refine Zt ?_
    exact congrArg (fun v => AEnd.ret (vs v)) i3
  have ek : decide ((k : Int) ≤ 5) = true := decide_eq_true (by omega)
  have e6 : 6 - k = (6 - (k + 1)) + 1 := by omega
  rw [e6] at i3
  simp only [signF] at i3
  have hol := ops_len (k : Int)
  have ho := ops_ok (k : Int)
  generalize hL : opsT (k : Int) = L at i3 hol ho
  repeat' first
    | refine Z1 ?_ | refine Z2 ?_ | refine Z5 ?_ | refine Zc (ho) ?_ | refine Zd ?_ | refine Zo ?_ | refine ok_seq ?_ | refine Zp ?_ | refine ok_block ?_ | refine ok_skip ?_ | refine x_normal_then ?_
  refine ok_for (ι := Nat) (fun x => envL [(0, vi op), (3, vi k), (4, .d (.im ((L.map (·.1)).map eStr))), (5, .d (.im ((L.map (·.2)).map eNum))), (16, .d (.im ((L.map (·.2)).map eNum))), (17, vi (L.map (·.2)).length), (18, vi x)]) (fun x => stL []) (fun x => x ≤ L.length ∧ signGo op (L.drop x) = signGo op L) (fun x => L.length - x) 0 (⟨Nat.zero_le _, rfl⟩) (weak_mk rfl ⟨.refl _, .refl _, .refl _, .refl _, .refl _, .refl _, .refl _, trivial⟩ trivial) (fun _ => Nat.le_refl 0) ?_
  rintro q ⟨j1, j2⟩
  have hml : (L.map (·.2)).length = L.length := by simp
  rcases hx : L[q]? with _ | x
  · have hle := none_le hx
    have eq : decide ((q : Int) < ((L.map (·.2)).length : Int)) = false := decide_eq_false (by omega)
    rw [drop_none hx] at j2
    rw [← j2] at i3
    simp only [signGo] at i3
    repeat' first
      | refine Z1 ?_ | refine Z2 ?_ | refine Z5 ?_ | refine Zf ?_ | refine Zo ?_ | refine ok_seq ?_ | refine ok_reg ?_ | refine Zq ?_ | refine ok_exit ?_ | refine x_normal_then ?_ | refine x_exit_here ?_ | refine Zv ?_
      | refine x_normal_block ?_
    exact ⟨k + 1, ⟨by omega, by omega, i3⟩, by (try simp only); omega, low_mk (Nat.zero_le _) ⟨⟨rfl, rfl⟩, ⟨rfl, rfl⟩, trivial⟩ trivial⟩
  obtain ⟨hd, hlt⟩ := drop_some hx
  have eq : decide ((q : Int) < ((L.map (·.2)).length : Int)) = true := decide_eq_true (by omega)
  rw [hd] at j2
  simp only [signGo] at j2
  have x1 : (L.map (·.1))[q]? = some x.1 := by rw [List.getElem?_map, hx]; rfl
  have x2 : (L.map (·.2))[q]? = some x.2 := by rw [List.getElem?_map, hx]; rfl
  by_cases he : x.2 = op
  · have e1 : decide (x.2 = op) = true := decide_eq_true he
    rw [if_pos he] at j2
    rw [← j2] at i3
    repeat' first
      | refine Z1 ?_ | refine Z2 ?_ | refine Z5 ?_ | refine Yej (e := eNum) (n := (q : Int)) q rfl x2 ?_ | refine Yej (e := eStr) (n := (q : Int)) q rfl x1 ?_ | refine Zo ?_ | refine ok_seq ?_ | refine Zp ?_ | refine ok_block ?_
      | refine ok_skip ?_ | refine ok_ret ?_ | refine x_normal_then ?_ | refine x_ret_then ?_ | refine x_ret_block ?_ | refine Zt ?_
    exact congrArg (fun v => AEnd.ret (vs v)) i3
  · have e1 : decide (x.2 = op) = false := decide_eq_false he
    rw [if_neg he] at j2
    repeat' first
      | refine Z1 ?_ | refine Z2 ?_ | refine Z5 ?_ | refine Yej (e := eNum) (n := (q : Int)) q rfl x2 ?_ | refine Zf ?_ | refine Zo ?_ | refine ok_seq ?_ | refine ok_reg ?_ | refine Zp ?_ | refine Zq ?_ | refine ok_block ?_
      | refine ok_skip ?_ | refine x_normal_then ?_ | refine x_normal_block ?_
    exact ⟨q + 1, ⟨hlt, j2⟩, by (try simp only); omega, low_mk (Nat.zero_le _) ⟨⟨rfl, rfl⟩, ⟨rfl, rfl⟩, ⟨rfl, rfl⟩, ⟨rfl, rfl⟩, ⟨rfl, rfl⟩, ⟨rfl, rfl⟩, ⟨rfl, rfl⟩, trivial⟩ trivial⟩
def spartT (x : Itm) : ByteArray := if x.op = 1 then itoaB x.val else if x.op = 2 then boolT x.val else if x.op = 3 then B [46] ++ x.name else if x.op = 25 then B [64] ++ itoaB x.val else if x.op = 4 then B [110, 101, 103] else if x.op = 5 then B [110, 111, 116] else if x.op = 20 then B [63] else signF x.op 5 1
theorem spart_ok (x : Itm) (h0 : -9223372036854775807 ≤ x.val) (h1 : x.val ≤ 9223372036854775807) (hn : x.name.size ≤ 1048576) : PFun X 45 [.agg ((eItm x).map .d)] (vs (spartT x)) := by
  have hz := itoaB_len x.val (by omega) (by omega)
  have hz2 : (B [64] ++ itoaB x.val).size ≤ 9223372036854775807 := by
    rw [ByteArray.size_append]
    have : (B [64]).size = 1 := rfl
    omega
  have hz3 : (B [46] ++ x.name).size ≤ 9223372036854775807 := by
    rw [ByteArray.size_append]
    have : (B [46]).size = 1 := rfl
    omega
  refine pfun_of Tryz.func45 rfl (by decide) Tryz.ntmps45 Tryz.results45 (by simp) rfl rfl ?_
  unfold spartT
  by_cases o1 : x.op = 1
  · have d1 : decide (x.op = 1) = true := decide_eq_true o1
    rw [if_pos o1]
    repeat' first
      | refine Z1 ?_ | refine Z2 ?_ | refine Z5 ?_ | refine Zc (dec_ok x.val h0 h1) ?_ | refine Zo ?_ | refine ok_seq ?_ | refine Zp ?_ | refine ok_block ?_ | refine ok_ret ?_ | refine x_ret_then ?_ | refine x_ret_block ?_
      | refine Zt ?_
    rfl
  have d1 : decide (x.op = 1) = false := decide_eq_false o1
  rw [if_neg o1]
  by_cases o2 : x.op = 2
  · have d2 : decide (x.op = 2) = true := decide_eq_true o2
    rw [if_pos o2]
    repeat' first
      | refine Z1 ?_ | refine Z2 ?_ | refine Z5 ?_ | refine Zc (flag_ok x.val) ?_ | refine Zo ?_ | refine ok_seq ?_ | refine Zp ?_ | refine Zq ?_ | refine ok_block ?_ | refine ok_ret ?_ | refine x_ret_then ?_
      | refine x_ret_block ?_ | refine Zt ?_
    rfl
  have d2 : decide (x.op = 2) = false := decide_eq_false o2
  rw [if_neg o2]
  by_cases o3 : x.op = 3
  · have d3 : decide (x.op = 3) = true := decide_eq_true o3
    rw [if_pos o3]
    repeat' first
      | refine Z1 ?_ | refine Z2 ?_ | refine Z5 ?_ | refine Ul (a := B [46]) (b := x.name) (hb := hz3) ?_ | refine Zo ?_ | refine ok_seq ?_ | refine Zp ?_ | refine Zq ?_ | refine ok_block ?_ | refine ok_ret ?_
      | refine x_ret_then ?_ | refine x_ret_block ?_ | refine Zt ?_
    rfl
  have d3 : decide (x.op = 3) = false := decide_eq_false o3
  rw [if_neg o3]
  by_cases o4 : x.op = 25
  · have d4 : decide (x.op = 25) = true := decide_eq_true o4
    rw [if_pos o4]
    repeat' first
      | refine Z1 ?_ | refine Z2 ?_ | refine Z5 ?_ | refine Zc (dec_ok x.val h0 h1) ?_ | refine Ul (a := B [64]) (b := itoaB x.val) (hb := hz2) ?_ | refine Zo ?_ | refine ok_seq ?_ | refine Zp ?_ | refine Zq ?_ | refine ok_block ?_
      | refine ok_ret ?_ | refine x_ret_then ?_ | refine x_ret_block ?_ | refine Zt ?_
    rfl
  have d4 : decide (x.op = 25) = false := decide_eq_false o4
  rw [if_neg o4]
  by_cases o5 : x.op = 4
  · have d5 : decide (x.op = 4) = true := decide_eq_true o5
    rw [if_pos o5]
    repeat' first
      | refine Z1 ?_ | refine Z2 ?_ | refine Zo ?_ | refine ok_seq ?_ | refine Zp ?_ | refine Zq ?_ | refine ok_block ?_ | refine ok_ret ?_ | refine x_ret_then ?_ | refine x_ret_block ?_ | refine Zt ?_
    rfl
  have d5 : decide (x.op = 4) = false := decide_eq_false o5
  rw [if_neg o5]
  by_cases o6 : x.op = 5
  · have d6 : decide (x.op = 5) = true := decide_eq_true o6
    rw [if_pos o6]
    repeat' first
      | refine Z1 ?_ | refine Z2 ?_ | refine Zo ?_ | refine ok_seq ?_ | refine Zp ?_ | refine Zq ?_ | refine ok_block ?_ | refine ok_ret ?_ | refine x_ret_then ?_ | refine x_ret_block ?_ | refine Zt ?_
    rfl
  have d6 : decide (x.op = 5) = false := decide_eq_false o6
  rw [if_neg o6]
  by_cases o7 : x.op = 20
  · have d7 : decide (x.op = 20) = true := decide_eq_true o7
    rw [if_pos o7]
    repeat' first
      | refine Z1 ?_ | refine Z2 ?_ | refine Zo ?_ | refine ok_seq ?_ | refine Zp ?_ | refine Zq ?_ | refine ok_block ?_ | refine ok_ret ?_ | refine x_ret_then ?_ | refine x_ret_block ?_ | refine Zt ?_
    rfl
  have d7 : decide (x.op = 20) = false := decide_eq_false o7
  rw [if_neg o7]
  repeat' first
    | refine Z1 ?_ | refine Z2 ?_ | refine Z5 ?_ | refine Zc (sign_ok x.op) ?_ | refine Zo ?_ | refine ok_seq ?_ | refine Zq ?_ | refine ok_block ?_ | refine ok_skip ?_ | refine ok_ret ?_ | refine x_normal_then ?_
    | refine x_normal_block ?_ | refine Zt ?_
  rfl
end Go.Pm
/- The specification's lines. -/
set_option linter.unusedVariables false
set_option linter.unusedSimpArgs false
namespace Go.Pm
attribute [local irreducible] AR Ok inBlock andThen endQ aoper
set_option maxHeartbeats 4000000
open Go.Proofs
def joinT (sep : ByteArray) : Nat → List ByteArray → ByteArray
  | _, [] => B []
  | i, x :: l => (if 0 < i then sep else B []) ++ (x ++ joinT sep (i + 1) l)
theorem join_mem {sep x : ByteArray} : ∀ {l : List ByteArray} {i : Nat}, x ∈ l → x.size ≤ (joinT sep i l).size
  | [], _, h => by simp at h
  | y :: l, i, h => by
    simp only [joinT, ByteArray.size_append]
    rcases List.mem_cons.1 h with rfl | h
    · omega
    · have := join_mem (sep := sep) (i := i + 1) h
      omega
theorem join_ok (sep : ByteArray) (l : List ByteArray) (hl : l.length ≤ 1048576) (hs : (joinT sep 0 l).size ≤ 140737488355328) : PFun X 23 [.d (.im (l.map eStr)), vs sep] (vs (joinT sep 0 l)) := by
  refine pfun_of Tryz.func23 rfl (by decide) Tryz.ntmps23 Tryz.results23 (by simp) rfl rfl ?_
  generalize hfull : joinT sep 0 l = full at hs
  repeat' first
    | refine Z1 ?_ | refine Z2 ?_ | refine Z5 ?_ | refine Zd ?_ | refine Zo ?_ | refine ok_seq ?_ | refine ok_block ?_
  refine ok_for (ι := Nat × ByteArray) (fun x_ => envL [(1, vs sep), (5, vs x_.2), (8, .d (.im (l.map eStr))), (9, vi l.length), (10, vi x_.1)]) (fun x_ => stL []) (fun x_ => x_.1 ≤ l.length ∧ x_.2 ++ joinT sep x_.1 (l.drop x_.1) = full) (fun x_ => l.length - x_.1) (0, B []) (⟨Nat.zero_le _, by rw [nil_ba]; exact hfull⟩) (weak_mk rfl ⟨.refl _, .refl _, .refl _, .refl _, .refl _, trivial⟩ trivial) (fun _ => Nat.le_refl 0) ?_
  rintro ⟨k, u⟩ ⟨i1, i2⟩
  simp only at i1 i2
  rcases hx : l[k]? with _ | x
  · have hle := none_le hx
    have ek : decide ((k : Int) < (l.length : Int)) = false := decide_eq_false (by omega)
    rw [drop_none hx] at i2
    simp only [joinT, ba_nil] at i2
    repeat' first
      | refine Z1 ?_ | refine Z2 ?_ | refine Zo ?_ | refine ok_seq ?_ | refine Zq ?_ | refine ok_exit ?_ | refine ok_ret ?_ | refine x_normal_then ?_ | refine x_exit_here ?_ | refine Zv ?_ | refine Zt ?_
    exact congrArg (fun v => AEnd.ret (vs v)) i2
  obtain ⟨hd, hlt⟩ := drop_some hx
  have ek : decide ((k : Int) < (l.length : Int)) = true := decide_eq_true (by omega)
  rw [hd] at i2
  simp only [joinT] at i2
  by_cases h0 : 0 < k
  · have e0 : decide ((k : Int) > 0) = true := decide_eq_true (by omega)
    have e0' : decide (0 < (k : Int)) = true := decide_eq_true (by omega)
    rw [if_pos h0] at i2
    have z1 := sz_of i2 hs
    have i2 := nx_of i2
    have z2 := sz_of i2 hs
    have i2 := nx_of i2
    repeat' first
      | refine Z1 ?_ | refine Z2 ?_ | refine Z3 ?_ | refine Z5 ?_ | refine Ul (a := u) (b := sep) (hb := by omega) ?_ | refine Ul (a := u ++ sep) (b := x) (hb := by omega) ?_ | refine Ze ?_ | refine Zf ?_ | refine Zo ?_
      | refine ok_seq ?_ | refine ok_reg ?_ | refine Zp ?_ | refine ok_block ?_ | refine ok_skip ?_ | refine x_normal_then ?_ | refine x_normal_block ?_
    exact ⟨(k + 1, u ++ sep ++ x), ⟨hlt, i2⟩, by (try simp only); omega, low_mk (Nat.zero_le _) ⟨⟨rfl, rfl⟩, ⟨rfl, rfl⟩, ⟨rfl, rfl⟩, ⟨rfl, rfl⟩, ⟨rfl, rfl⟩, trivial⟩ trivial⟩
  · have e0 : decide ((k : Int) > 0) = false := decide_eq_false (by omega)
    have e0' : decide (0 < (k : Int)) = false := decide_eq_false (by omega)
    rw [if_neg h0, nil_ba] at i2
    have z1 := sz_of i2 hs
    have i2 := nx_of i2
    repeat' first
      | refine Z1 ?_ | refine Z2 ?_ | refine Z3 ?_ | refine Z5 ?_ | refine Ul (a := u) (b := x) (hb := by omega) ?_ | refine Ze ?_ | refine Zf ?_ | refine Zo ?_ | refine ok_seq ?_ | refine ok_reg ?_ | refine Zp ?_ | refine Zq ?_
      | refine ok_block ?_ | refine ok_skip ?_ | refine x_normal_then ?_ | refine x_normal_block ?_
    exact ⟨(k + 1, u ++ x), ⟨hlt, i2⟩, by (try simp only); omega, low_mk (Nat.zero_le _) ⟨⟨rfl, rfl⟩, ⟨rfl, rfl⟩, ⟨rfl, rfl⟩, ⟨rfl, rfl⟩, ⟨rfl, rfl⟩, trivial⟩ trivial⟩
def scodeT (l : List Itm) : ByteArray := joinT (B [32]) 0 (l.map spartT)
def R63 (v : Int) : Prop := -9223372036854775807 ≤ v ∧ v ≤ 9223372036854775807
def okI (x : Itm) : Prop := R63 x.val ∧ x.name.size ≤ 1048576
theorem scodet_ok (l : List Itm) (hl : l.length ≤ 1048576) (hv : ∀ x ∈ l, okI x) (hs : (scodeT l).size ≤ 140737488355328) : PFun X 22 [.d (.im (l.map eItm))] (vs (scodeT l)) := by
  refine pfun_of Tryz.func22 rfl (by decide) Tryz.ntmps22 Tryz.results22 (by simp) rfl rfl ?_
  repeat' first
    | refine Z1 ?_ | refine Z2 ?_ | refine Z5 ?_ | refine op_bslice rfl rfl rfl rfl rfl rfl rfl ?_ | refine Zd ?_ | refine Zo ?_ | refine ok_seq ?_ | refine ok_block ?_
  refine ok_forR (ι := Nat × List ByteArray) (fun x_ => envL [(3, .sl 0 1 0 x_.2.length), (7, .d (.im (l.map eItm))), (8, vi l.length), (9, vi x_.1)]) (fun x_ => stL [some (.row 1 9 1 (im2 eStr x_.2)), none]) (fun x_ => x_.1 ≤ l.length ∧ x_.2 = (l.take x_.1).map spartT) (fun x_ => l.length - x_.1) (0, []) (⟨Nat.zero_le _, rfl⟩) Turn.refl (lowR_mk [(1, 0)] rfl rfl rfl ⟨⟨rfl, rfl⟩, ⟨rfl, rfl⟩, ⟨rfl, rfl⟩, ⟨rfl, rfl⟩, trivial⟩ ⟨⟨renO_row rfl (by first | exact im2_ren _ _ _ | rfl), blt_lt rfl, im2_low _ _ _⟩, trivial⟩) ?_
  rintro ⟨k, L⟩ ⟨i1, i2⟩
  simp only at i1 i2
  have hL : L.length ≤ l.length := by rw [i2]; simp; omega
  rcases hx : l[k]? with _ | x
  · have hle := none_le hx
    have ek : decide ((k : Int) < (l.length : Int)) = false := decide_eq_false (by omega)
    rw [List.take_of_length_le hle] at i2
    subst i2
    repeat' first
      | refine Z1 ?_ | refine Z2 ?_ | refine Z5 ?_
      | refine Ym (PFun.lendL (args := [.sl 0 1 0 (l.map spartT).length, vs (B [32])]) (join_ok (B [32]) (l.map spartT) (by simpa using hl) hs) ⟨.data (fz_im2 rfl rfl), afz_d _, trivial⟩) ?_ | refine Zo ?_ | refine ok_seq ?_ | refine Zq ?_
      | refine ok_exit ?_ | refine ok_ret ?_ | refine x_normal_then ?_ | refine x_exit_here ?_ | refine Zv ?_ | refine Zt ?_
    rfl
  obtain ⟨hd, hlt⟩ := drop_some hx
  have ek : decide ((k : Int) < (l.length : Int)) = true := decide_eq_true (by omega)
  obtain ⟨⟨v0, v1⟩, v2⟩ := hv x (List.mem_of_getElem? hx)
  repeat' first
    | refine Z1 ?_ | refine Z2 ?_ | refine Z3 ?_ | refine Z4 ?_ | refine Z5 ?_ | refine Zc (spart_ok x v0 v1 v2) ?_ | refine Yl (e := eStr) (l := L) [spartT x] ?_ | refine Ze ?_ | refine Zf ?_ | refine Zo ?_ | refine ok_seq ?_
    | refine ok_reg ?_ | refine Zp ?_ | refine ok_block ?_ | refine ok_skip ?_ | refine x_normal_then ?_ | refine x_normal_block ?_
  exact ⟨(k + 1, L ++ [spartT x]), ⟨hlt, by rw [i2, tk_push hx, List.map_append]; rfl⟩, by (try simp only); omega, lowR_mk [(1, 4)] rfl rfl rfl ⟨⟨rfl, rfl⟩, ⟨rfl, rfl⟩, ⟨rfl, rfl⟩, ⟨rfl, rfl⟩, trivial⟩ ⟨⟨renO_row rfl (by first | exact im2_ren _ _ _ | rfl), blt_lt rfl, im2_low _ _ _⟩, trivial⟩⟩
def sSetT (s : Sm) : ByteArray := B [115, 101, 116, 32] ++ s.name ++ B [32, 58, 32] ++ scodeT s.code
def sSaveT (s : Sm) : ByteArray := B [115, 97, 118, 101, 32] ++ itoaB s.pos ++ B [32, 58, 32] ++ scodeT s.code
def sCallT (s : Sm) : ByteArray := B [99, 97, 108, 108, 32] ++ itoaB s.pos ++ B [32] ++ joinT (B [32]) 0 s.outs ++ B [32, 58]
def sArgsT (s : Sm) : ByteArray := B [32] ++ joinT (B [32, 44, 32]) 0 (s.args.map scodeT)
def slineT (s : Sm) : ByteArray :=
  if s.kind = 1 then sSetT s else if s.kind = 2 then sSaveT s else if s.kind = 4 then B [105, 102, 32] ++ s.name
  else if s.kind = 5 then B [101, 108, 115, 101] else if s.kind = 6 then B [101, 110, 100]
  else if s.args = [] then sCallT s else sCallT s ++ sArgsT s
theorem sline_ok (s : Sm) (hw : wSm s ≤ 1048576) (hp : R63 s.pos) (hc : ∀ x ∈ s.code, okI x) (ha : ∀ a ∈ s.args, ∀ x ∈ a, okI x) (hs : (slineT s).size ≤ 140737488355328) : PFun X 13 [.agg ((eSm s).map .d)] (vs (slineT s)) := by
  have hcl : s.code.length ≤ 1048576 := by simp only [wSm, wL] at hw; omega
  have hol : s.outs.length ≤ 1048576 := by simp only [wSm, wL] at hw; omega
  have hal : s.args.length ≤ 1048576 := by simp only [wSm, wL] at hw; omega
  have hnm : s.name.size ≤ 1048576 := by simp only [wSm] at hw; omega
  obtain ⟨p0, p1⟩ := hp
  refine pfun_of Tryz.func13 rfl (by decide) Tryz.ntmps13 Tryz.results13 (by simp) rfl rfl ?_
  unfold slineT at hs ⊢
  by_cases k1 : s.kind = 1
  · have d1 : decide (s.kind = 1) = true := decide_eq_true k1
    rw [if_pos k1] at hs ⊢
    have hs2 := hs
    unfold sSetT at hs2
    simp only [ByteArray.size_append] at hs2
    repeat' first
      | refine Z1 ?_ | refine Z2 ?_ | refine Zw ?_ | refine Zx ?_ | refine Zz (Zc (scodet_ok s.code hcl hc (by omega)) ⟨rfl, rfl⟩) ?_ | refine Zz (Ul (a := B [115, 101, 116, 32]) (b := s.name) ⟨rfl, rfl⟩) ?_
      | refine Zz (Ul (a := B [115, 101, 116, 32] ++ s.name) (b := B [32, 58, 32]) ⟨rfl, rfl⟩) ?_ | refine Zz (Ul (a := B [115, 101, 116, 32] ++ s.name ++ B [32, 58, 32]) (b := scodeT s.code) ⟨rfl, rfl⟩) ?_ | refine Zo ?_ | refine ok_seq ?_
      | refine ok_draw X_mixed (by decide +kernel) ?_ | refine Zp ?_ | refine ok_block ?_ | refine ok_ret ?_ | refine x_ret_then ?_ | refine x_ret_block ?_ | refine Zt ?_
    rfl
  have d1 : decide (s.kind = 1) = false := decide_eq_false k1
  rw [if_neg k1] at hs ⊢
  by_cases k2 : s.kind = 2
  · have d2 : decide (s.kind = 2) = true := decide_eq_true k2
    rw [if_pos k2] at hs ⊢
    have hs2 := hs
    unfold sSaveT at hs2
    simp only [ByteArray.size_append] at hs2
    repeat' first
      | refine Z1 ?_ | refine Z2 ?_ | refine Zw ?_ | refine Zx ?_ | refine Zz (Zc (dec_ok s.pos p0 p1) ⟨rfl, rfl⟩) ?_ | refine Zz (Zc (scodet_ok s.code hcl hc (by omega)) ⟨rfl, rfl⟩) ?_
      | refine Zz (Ul (a := B [115, 97, 118, 101, 32]) (b := itoaB s.pos) ⟨rfl, rfl⟩) ?_ | refine Zz (Ul (a := B [115, 97, 118, 101, 32] ++ itoaB s.pos) (b := B [32, 58, 32]) ⟨rfl, rfl⟩) ?_
      | refine Zz (Ul (a := B [115, 97, 118, 101, 32] ++ itoaB s.pos ++ B [32, 58, 32]) (b := scodeT s.code) ⟨rfl, rfl⟩) ?_ | refine Zo ?_ | refine ok_seq ?_ | refine ok_draw X_mixed (by decide +kernel) ?_ | refine Zp ?_ | refine Zq ?_
      | refine ok_block ?_ | refine ok_ret ?_ | refine x_ret_then ?_ | refine x_ret_block ?_ | refine Zt ?_
    rfl
  have d2 : decide (s.kind = 2) = false := decide_eq_false k2
  rw [if_neg k2] at hs ⊢
  by_cases k4 : s.kind = 4
  · have d4 : decide (s.kind = 4) = true := decide_eq_true k4
    rw [if_pos k4] at hs ⊢
    have hs2 := hs
    simp only [ByteArray.size_append] at hs2
    repeat' first
      | refine Z1 ?_ | refine Z2 ?_ | refine Z5 ?_ | refine Ul (a := B [105, 102, 32]) (b := s.name) ?_ | refine Zo ?_ | refine ok_seq ?_ | refine Zp ?_ | refine Zq ?_ | refine ok_block ?_ | refine ok_ret ?_ | refine x_ret_then ?_
      | refine x_ret_block ?_ | refine Zt ?_
    rfl
  have d4 : decide (s.kind = 4) = false := decide_eq_false k4
  rw [if_neg k4] at hs ⊢
  by_cases k5 : s.kind = 5
  · have d5 : decide (s.kind = 5) = true := decide_eq_true k5
    rw [if_pos k5]
    repeat' first
      | refine Z1 ?_ | refine Z2 ?_ | refine Zo ?_ | refine ok_seq ?_ | refine Zp ?_ | refine Zq ?_ | refine ok_block ?_ | refine ok_ret ?_ | refine x_ret_then ?_ | refine x_ret_block ?_ | refine Zt ?_
    rfl
  have d5 : decide (s.kind = 5) = false := decide_eq_false k5
  rw [if_neg k5] at hs ⊢
  by_cases k6 : s.kind = 6
  · have d6 : decide (s.kind = 6) = true := decide_eq_true k6
    rw [if_pos k6]
    repeat' first
      | refine Z1 ?_ | refine Z2 ?_ | refine Zo ?_ | refine ok_seq ?_ | refine Zp ?_ | refine Zq ?_ | refine ok_block ?_ | refine ok_ret ?_ | refine x_ret_then ?_ | refine x_ret_block ?_ | refine Zt ?_
    rfl
  have d6 : decide (s.kind = 6) = false := decide_eq_false k6
  rw [if_neg k6] at hs ⊢
  have hcz : (sCallT s).size ≤ 140737488355328 := by
    split at hs
    · exact hs
    · rw [ByteArray.size_append] at hs; omega
  have hcz2 := hcz
  unfold sCallT at hcz2
  simp only [ByteArray.size_append] at hcz2
  have haz : ∀ a ∈ s.args, (scodeT a).size ≤ 140737488355328 := by
    intro a ha2
    have hne : s.args ≠ [] := fun e => by rw [e] at ha2; simp at ha2
    rw [if_neg hne, ByteArray.size_append] at hs
    unfold sArgsT at hs
    rw [ByteArray.size_append] at hs
    have := join_mem (sep := B [32, 44, 32]) (i := 0) (List.mem_map_of_mem (f := scodeT) ha2)
    omega
  repeat' first
    | refine Z1 ?_ | refine Z2 ?_ | refine Z5 ?_ | refine op_bslice rfl rfl rfl rfl rfl rfl rfl ?_ | refine Zd ?_ | refine Zo ?_ | refine ok_seq ?_ | refine Zq ?_ | refine ok_block ?_ | refine ok_skip ?_ | refine x_normal_then ?_
    | refine x_normal_block ?_
  refine ok_forR (ι := Nat × List ByteArray) (fun x_ => envL [(1, .ref 0 0), (3, .sl 1 2 0 x_.2.length), (41, .d (.im (s.args.map eItms))), (42, vi s.args.length), (43, vi x_.1)]) (fun x_ => stL [some (.var ((eSm s).map .d)), some (.row 2 9 1 (im2 eStr x_.2)), none]) (fun x_ => x_.1 ≤ s.args.length ∧ x_.2 = (s.args.take x_.1).map scodeT) (fun x_ => s.args.length - x_.1) (0, []) (⟨Nat.zero_le _, rfl⟩) Turn.refl (lowR_mk [(2, 1)] rfl rfl rfl ⟨⟨rfl, rfl⟩, ⟨rfl, rfl⟩, ⟨rfl, rfl⟩, ⟨rfl, rfl⟩, ⟨rfl, rfl⟩, trivial⟩ ⟨⟨rfl, rfl⟩, ⟨renO_row rfl (by first | exact im2_ren _ _ _ | rfl), blt_lt rfl, im2_low _ _ _⟩, trivial⟩) ?_
  rintro ⟨k, L⟩ ⟨i1, i2⟩
  simp only at i1 i2
  have hL : L.length ≤ s.args.length := by rw [i2]; simp; omega
  by_cases hyl : k < s.args.length
  · obtain ⟨y, hy⟩ : ∃ y, s.args[k]? = some y := ⟨s.args[k], List.getElem?_eq_getElem hyl⟩
    obtain ⟨hd, hlt⟩ := drop_some hy
    have ek : decide ((k : Int) < (s.args.length : Int)) = true := decide_eq_true (by omega)
    have hym := List.mem_of_getElem? hy
    have hyl2 : y.length ≤ 1048576 := by
      have := wL_mem (w := wL wItm) hym
      simp only [wSm, wL] at this hw
      omega
    repeat' first
      | refine Z1 ?_ | refine Z2 ?_ | refine Z3 ?_ | refine Z4 ?_ | refine Z5 ?_ | refine Zc (scodet_ok y hyl2 (ha y hym) (haz y hym)) ?_ | refine Yl (e := eStr) (l := L) [scodeT y] ?_ | refine Ze ?_ | refine Zf ?_ | refine Zo ?_
      | refine ok_seq ?_ | refine ok_reg ?_ | refine Zp ?_ | refine ok_block ?_ | refine ok_skip ?_ | refine x_normal_then ?_ | refine x_normal_block ?_
    exact ⟨(k + 1, L ++ [scodeT y]), ⟨hlt, by rw [i2, tk_push hy, List.map_append]; rfl⟩, by (try simp only); omega, lowR_mk [(2, 4)] rfl rfl rfl ⟨⟨rfl, rfl⟩, ⟨rfl, rfl⟩, ⟨rfl, rfl⟩, ⟨rfl, rfl⟩, ⟨rfl, rfl⟩, trivial⟩ ⟨⟨rfl, rfl⟩, ⟨renO_row rfl (by first | exact im2_ren _ _ _ | rfl), blt_lt rfl, im2_low _ _ _⟩, trivial⟩⟩
  have ek : decide ((k : Int) < (s.args.length : Int)) = false := decide_eq_false (by omega)
  rw [List.take_of_length_le (by omega)] at i2
  subst i2
  repeat' first
    | refine Z1 ?_ | refine Z2 ?_ | refine Z5 ?_ | refine Zw ?_ | refine Zx ?_ | refine Zz (Zc (dec_ok s.pos p0 p1) ⟨rfl, rfl⟩) ?_ | refine Zz (Zc (join_ok (B [32]) s.outs hol (by omega)) ⟨rfl, rfl⟩) ?_
    | refine Zz (Ul (a := B [99, 97, 108, 108, 32]) (b := itoaB s.pos) ⟨rfl, rfl⟩) ?_ | refine Zz (Ul (a := B [99, 97, 108, 108, 32] ++ itoaB s.pos) (b := B [32]) ⟨rfl, rfl⟩) ?_
    | refine Zz (Ul (a := B [99, 97, 108, 108, 32] ++ itoaB s.pos ++ B [32]) (b := joinT (B [32]) 0 s.outs) ⟨rfl, rfl⟩) ?_
    | refine Zz (Ul (a := B [99, 97, 108, 108, 32] ++ itoaB s.pos ++ B [32] ++ joinT (B [32]) 0 s.outs) (b := B [32, 58]) ⟨rfl, rfl⟩) ?_ | refine Zo ?_ | refine ok_seq ?_ | refine ok_reg ?_ | refine ok_draw X_mixed (by decide +kernel) ?_
    | refine Zq ?_ | refine Zr (fun hc => ?_) (fun hc => ?_) | refine ok_exit ?_ | refine ok_skip ?_ | refine ok_ret ?_ | refine x_normal_then ?_ | refine x_exit_here ?_ | refine Zv ?_ | refine Zt ?_
  · have hne : s.args ≠ [] := fun e => by rw [e] at hc; simp at hc
    rw [if_neg hne] at hs ⊢
    have hs2 := hs
    unfold sArgsT at hs2
    simp only [ByteArray.size_append] at hs2
    repeat' first
      | refine Z1 ?_ | refine Z2 ?_ | refine Z5 ?_
      | refine Ym (PFun.lendL (args := [.sl 1 2 0 (s.args.map scodeT).length, vs (B [32, 44, 32])]) (join_ok (B [32, 44, 32]) (s.args.map scodeT) (by simpa using hal) (by omega)) ⟨.data (fz_im2 rfl rfl), afz_d _, trivial⟩) ?_
      | refine Ul (a := B [32]) (b := joinT (B [32, 44, 32]) 0 (s.args.map scodeT)) ?_ | refine Ul (a := sCallT s) (b := B [32] ++ joinT (B [32, 44, 32]) 0 (s.args.map scodeT)) ?_ | refine Zo ?_ | refine ok_ret ?_ | refine Zt ?_
    rfl
  · have hne : s.args = [] := by
      cases h : s.args with
      | nil => rfl
      | cons a r => exfalso; rw [h] at hc; have := of_decide_eq_false hc; simp at this
    rw [if_pos hne]
    rfl
end Go.Pm
