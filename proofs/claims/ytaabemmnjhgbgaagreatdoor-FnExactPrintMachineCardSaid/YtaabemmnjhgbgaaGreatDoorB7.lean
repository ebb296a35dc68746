/- The laws' copies and comparisons (printed by gen_to.py). -/
import Derived.Test.YtaabemmnjhgbgaaGreatDoorB1
import Derived.Test.YtaabemmnjhgbgaaGreatDoorA4
set_option linter.unusedVariables false
set_option linter.unusedSimpArgs false
namespace Go.Pm
attribute [local irreducible] AR Ok inBlock andThen endQ aoper
set_option maxHeartbeats 1000000
open Go.Proofs
theorem wL_mem {α : Type} {w : α → Nat} {x : α} : ∀ {l : List α}, x ∈ l → w x ≤ (l.map w).sum
  | y :: l, h => by
    simp only [List.map_cons, List.sum_cons]
    rcases List.mem_cons.1 h with rfl | h
    · omega
    · have := wL_mem (w := w) h; omega

theorem toItem_ok (x : Itm) (hw : wItm x ≤ 1048576) : PFun X 103 [.agg ((eItm x).map .d)] (.agg ((eItm x).map .d)) := by
  simp only [wItm] at hw
  refine pfun_of Tryz.func103 rfl (by decide) Tryz.ntmps103 Tryz.results103 (by simp) rfl rfl ?_
  repeat' first
    | refine Z1 ?_ | refine Z2 ?_ | refine Zo ?_ | refine ok_ret ?_ | refine Zu ?_
  rfl
theorem eqItem_ok (x : Itm) (hw : wItm x ≤ 1048576) : PFun X 109 [.agg ((eItm x).map .d), .agg ((eItm x).map .d)] (vb true) := by
  simp only [wItm] at hw
  have ht : (!true) = false := rfl
  have e0 : decide (x.op ≠ x.op) = false := decide_eq_false (fun h => h rfl)
  have e1 : decide (x.val ≠ x.val) = false := decide_eq_false (fun h => h rfl)
  have e2 : decide (x.name ≠ x.name) = false := decide_eq_false (fun h => h rfl)
  refine pfun_of Tryz.func109 rfl (by decide) Tryz.ntmps109 Tryz.results109 (by simp) rfl rfl ?_
  repeat' first
    | refine Z1 ?_ | refine Z2 ?_ | refine Zo ?_ | refine ok_seq ?_ | refine Zq ?_ | refine ok_skip ?_ | refine ok_ret ?_ | refine x_normal_then ?_ | refine Zt ?_
  rfl

theorem toItemS_ok (l : List (Itm)) (hw : wL (wItm) l ≤ 1048576) : PFun X 91 [.d (.im (l.map eItm))] (.d (.im (l.map eItm))) := by
  simp only [wL] at hw
  refine pfun_of Tryz.func91 rfl (by decide) Tryz.ntmps91 Tryz.results91 (by simp) rfl rfl ?_
  repeat' first
    | refine Z1 ?_ | refine Z2 ?_ | refine Z5 ?_ | refine op_make (k := l.length) rfl rfl (by omega) rfl rfl rfl rfl rfl rfl ?_ | refine Zd ?_ | refine Zo ?_ | refine ok_seq ?_ | refine ok_block ?_
  refine ok_for (ι := Nat) (fun x => envL [(0, .d (.im (l.map eItm))), (3, .sl 0 0 0 l.length), (4, vi x)]) (fun x => stL [some (.row 0 91 3 (trk eItm l x [.d (.s (.int .i64 0)), .d (.s (.int .i64 0)), .d (.s (.string .empty))]))]) (fun x => x ≤ l.length) (fun x => l.length - x) 0 (Nat.zero_le _) (weak_mk rfl ⟨.refl _, .refl _, .refl _, trivial⟩ ⟨⟨rfl, _, rfl, rfl, rfl, rfl, rfl⟩, trivial⟩) (fun _ => Nat.le_refl 1) ?_
  intro k i1
  rcases hx : l[k]? with _ | x
  · have hle := none_le hx
    have ek : decide ((k : Int) < (l.length : Int)) = false := decide_eq_false (by omega)
    repeat' first
      | refine Z1 ?_ | refine Z2 ?_ | refine Z5 ?_ | refine Zd ?_ | refine fz_rows (trk_all hle) 2 rfl rfl rfl ?_ | refine Zo ?_ | refine ok_seq ?_ | refine Zq ?_ | refine ok_exit ?_ | refine ok_ret ?_ | refine x_normal_then ?_
      | refine x_exit_here ?_ | refine Zv ?_ | refine Zt ?_
    rfl
  · obtain ⟨hdr, hlt⟩ := drop_some hx
    have hwx := wL_mem (w := wItm) (List.mem_of_getElem? hx)
    have ek : decide ((k : Int) < (l.length : Int)) = true := decide_eq_true (by omega)
    repeat' first
      | refine Z1 ?_ | refine Z2 ?_ | refine Z3 ?_ | refine Z5 ?_ | refine op_place rfl rfl hlt rfl rfl rfl rfl ?_ | refine op_putk hx rfl rfl rfl rfl rfl rfl rfl rfl ?_ | refine Zc (toItem_ok x (by omega)) ?_ | refine Zd ?_
      | refine Ze ?_ | refine Zf ?_ | refine Zo ?_ | refine ok_seq ?_ | refine ok_reg ?_ | refine Zp ?_ | refine ok_block ?_ | refine ok_skip ?_ | refine x_normal_then ?_ | refine x_normal_block ?_
    exact ⟨k + 1, hlt, by (try simp only); omega, low_mk (Nat.le_of_ble_eq_true rfl) ⟨⟨rfl, rfl⟩, ⟨rfl, rfl⟩, ⟨rfl, rfl⟩, trivial⟩ ⟨⟨rfl, blt_lt rfl, trk_low _ _ _ _ rfl⟩, trivial⟩⟩
theorem eqItemS_ok (l : List (Itm)) (hw : wL (wItm) l ≤ 1048576) : PFun X 98 [.d (.im (l.map eItm)), .d (.im (l.map eItm))] (vb true) := by
  have ht : (!true) = false := rfl
  simp only [wL] at hw
  have e0 : decide ((l.length : Int) ≠ (l.length : Int)) = false := decide_eq_false (fun h => h rfl)
  refine pfun_of Tryz.func98 rfl (by decide) Tryz.ntmps98 Tryz.results98 (by simp) rfl rfl ?_
  repeat' first
    | refine Z1 ?_ | refine Z2 ?_ | refine Z5 ?_ | refine Zd ?_ | refine Zo ?_ | refine ok_seq ?_ | refine Zq ?_ | refine ok_block ?_ | refine ok_skip ?_ | refine x_normal_then ?_
  refine ok_for (ι := Nat) (fun x => envL [(0, .d (.im (l.map eItm))), (1, .d (.im (l.map eItm))), (4, vb false), (5, vi x)]) (fun x => stL []) (fun x => x ≤ l.length) (fun x => l.length - x) 0 (Nat.zero_le _) (weak_mk rfl ⟨.refl _, .refl _, .refl _, .refl _, trivial⟩ trivial) (fun _ => Nat.le_refl 0) ?_
  intro k i1
  rcases hx : l[k]? with _ | x
  · have hle := none_le hx
    have ek : decide ((k : Int) < (l.length : Int)) = false := decide_eq_false (by omega)
    repeat' first
      | refine Z1 ?_ | refine Z2 ?_ | refine Z5 ?_ | refine Zd ?_ | refine Zo ?_ | refine ok_seq ?_ | refine Zq ?_ | refine ok_exit ?_ | refine ok_ret ?_ | refine x_normal_then ?_ | refine x_exit_here ?_ | refine Zv ?_
      | refine Zt ?_
    rfl
  · obtain ⟨hdr, hlt⟩ := drop_some hx
    have hwx := wL_mem (w := wItm) (List.mem_of_getElem? hx)
    have ek : decide ((k : Int) < (l.length : Int)) = true := decide_eq_true (by omega)
    repeat' first
      | refine Z1 ?_ | refine Z2 ?_ | refine Z5 ?_ | refine Zd ?_ | refine Zf ?_ | refine Zw ?_ | refine Zx ?_ | refine Zz (Zc (eqItem_ok x (by omega)) ⟨rfl, rfl⟩) ?_ | refine Zz (Ze ⟨rfl, rfl⟩) ?_ | refine Zo ?_ | refine ok_seq ?_
      | refine ok_reg ?_ | refine ok_draw X_mixed (by decide +kernel) ?_ | refine Zp ?_ | refine Zq ?_ | refine ok_block ?_ | refine ok_skip ?_ | refine x_normal_then ?_ | refine x_normal_block ?_
    exact ⟨k + 1, hlt, by (try simp only); omega, low_mk (Nat.zero_le _) ⟨⟨rfl, rfl⟩, ⟨rfl, rfl⟩, ⟨rfl, rfl⟩, ⟨rfl, rfl⟩, trivial⟩ trivial⟩

theorem toStringS_ok (l : List (ByteArray)) (hw : wL (wStr) l ≤ 1048576) : PFun X 47 [.d (.im (l.map eStr))] (.d (.im (l.map eStr))) := by
  simp only [wL] at hw
  refine pfun_of Tryz.func47 rfl (by decide) Tryz.ntmps47 Tryz.results47 (by simp) rfl rfl ?_
  repeat' first
    | refine Z1 ?_ | refine Z2 ?_ | refine Z5 ?_ | refine op_make (k := l.length) rfl rfl (by omega) rfl rfl rfl rfl rfl rfl ?_ | refine Zd ?_ | refine Zo ?_ | refine ok_seq ?_ | refine ok_block ?_
  refine ok_for (ι := Nat) (fun x => envL [(0, .d (.im (l.map eStr))), (3, .sl 0 0 0 l.length), (4, vi x)]) (fun x => stL [some (.row 0 9 1 (trk eStr l x [.d (.s (.string .empty))]))]) (fun x => x ≤ l.length) (fun x => l.length - x) 0 (Nat.zero_le _) (weak_mk rfl ⟨.refl _, .refl _, .refl _, trivial⟩ ⟨⟨rfl, _, rfl, rfl, rfl, rfl, rfl⟩, trivial⟩) (fun _ => Nat.le_refl 1) ?_
  intro k i1
  rcases hx : l[k]? with _ | x
  · have hle := none_le hx
    have ek : decide ((k : Int) < (l.length : Int)) = false := decide_eq_false (by omega)
    repeat' first
      | refine Z1 ?_ | refine Z2 ?_ | refine Z5 ?_ | refine Zd ?_ | refine fz_rows (trk_all hle) 2 rfl rfl rfl ?_ | refine Zo ?_ | refine ok_seq ?_ | refine Zq ?_ | refine ok_exit ?_ | refine ok_ret ?_ | refine x_normal_then ?_
      | refine x_exit_here ?_ | refine Zv ?_ | refine Zt ?_
    rfl
  · obtain ⟨hdr, hlt⟩ := drop_some hx
    have hwx := wL_mem (w := wStr) (List.mem_of_getElem? hx)
    have ek : decide ((k : Int) < (l.length : Int)) = true := decide_eq_true (by omega)
    repeat' first
      | refine Z1 ?_ | refine Z2 ?_ | refine Z3 ?_ | refine Z5 ?_ | refine op_place rfl rfl hlt rfl rfl rfl rfl ?_ | refine op_putk hx rfl rfl rfl rfl rfl rfl rfl rfl ?_ | refine Zd ?_ | refine Ze ?_ | refine Zf ?_ | refine Zo ?_
      | refine ok_seq ?_ | refine ok_reg ?_ | refine Zp ?_ | refine ok_block ?_ | refine ok_skip ?_ | refine x_normal_then ?_ | refine x_normal_block ?_
    exact ⟨k + 1, hlt, by (try simp only); omega, low_mk (Nat.le_of_ble_eq_true rfl) ⟨⟨rfl, rfl⟩, ⟨rfl, rfl⟩, ⟨rfl, rfl⟩, trivial⟩ ⟨⟨rfl, blt_lt rfl, trk_low _ _ _ _ rfl⟩, trivial⟩⟩
theorem eqStringS_ok (l : List (ByteArray)) (hw : wL (wStr) l ≤ 1048576) : PFun X 61 [.d (.im (l.map eStr)), .d (.im (l.map eStr))] (vb true) := by
  have ht : (!true) = false := rfl
  simp only [wL] at hw
  have e0 : decide ((l.length : Int) ≠ (l.length : Int)) = false := decide_eq_false (fun h => h rfl)
  refine pfun_of Tryz.func61 rfl (by decide) Tryz.ntmps61 Tryz.results61 (by simp) rfl rfl ?_
  repeat' first
    | refine Z1 ?_ | refine Z2 ?_ | refine Z5 ?_ | refine Zd ?_ | refine Zo ?_ | refine ok_seq ?_ | refine Zq ?_ | refine ok_block ?_ | refine ok_skip ?_ | refine x_normal_then ?_
  refine ok_for (ι := Nat) (fun x => envL [(0, .d (.im (l.map eStr))), (1, .d (.im (l.map eStr))), (4, vb false), (5, vi x)]) (fun x => stL []) (fun x => x ≤ l.length) (fun x => l.length - x) 0 (Nat.zero_le _) (weak_mk rfl ⟨.refl _, .refl _, .refl _, .refl _, trivial⟩ trivial) (fun _ => Nat.le_refl 0) ?_
  intro k i1
  rcases hx : l[k]? with _ | x
  · have hle := none_le hx
    have ek : decide ((k : Int) < (l.length : Int)) = false := decide_eq_false (by omega)
    repeat' first
      | refine Z1 ?_ | refine Z2 ?_ | refine Z5 ?_ | refine Zd ?_ | refine Zo ?_ | refine ok_seq ?_ | refine Zq ?_ | refine ok_exit ?_ | refine ok_ret ?_ | refine x_normal_then ?_ | refine x_exit_here ?_ | refine Zv ?_
      | refine Zt ?_
    rfl
  · obtain ⟨hdr, hlt⟩ := drop_some hx
    have hwx := wL_mem (w := wStr) (List.mem_of_getElem? hx)
    have ek : decide ((k : Int) < (l.length : Int)) = true := decide_eq_true (by omega)
    have ee : decide (x ≠ x) = false := decide_eq_false (fun h => h rfl)
    repeat' first
      | refine Z1 ?_ | refine Z2 ?_ | refine Z5 ?_ | refine Zd ?_ | refine Zf ?_ | refine Zw ?_ | refine Zx ?_ | refine Zz (Ze ⟨rfl, rfl⟩) ?_ | refine Zo ?_ | refine ok_seq ?_ | refine ok_reg ?_
      | refine ok_draw X_mixed (by decide +kernel) ?_ | refine Zp ?_ | refine Zq ?_ | refine ok_block ?_ | refine ok_skip ?_ | refine x_normal_then ?_ | refine x_normal_block ?_
    exact ⟨k + 1, hlt, by (try simp only); omega, low_mk (Nat.zero_le _) ⟨⟨rfl, rfl⟩, ⟨rfl, rfl⟩, ⟨rfl, rfl⟩, ⟨rfl, rfl⟩, trivial⟩ trivial⟩

theorem toIntS_ok (l : List (Int)) (hw : wL (wNum0) l ≤ 1048576) : PFun X 48 [.d (.im (l.map eNum))] (.d (.im (l.map eNum))) := by
  simp only [wL] at hw
  refine pfun_of Tryz.func48 rfl (by decide) Tryz.ntmps48 Tryz.results48 (by simp) rfl rfl ?_
  repeat' first
    | refine Z1 ?_ | refine Z2 ?_ | refine Z5 ?_ | refine op_make (k := l.length) rfl rfl (by omega) rfl rfl rfl rfl rfl rfl ?_ | refine Zd ?_ | refine Zo ?_ | refine ok_seq ?_ | refine ok_block ?_
  refine ok_for (ι := Nat) (fun x => envL [(0, .d (.im (l.map eNum))), (3, .sl 0 0 0 l.length), (4, vi x)]) (fun x => stL [some (.row 0 3 1 (trk eNum l x [.d (.s (.int .i64 0))]))]) (fun x => x ≤ l.length) (fun x => l.length - x) 0 (Nat.zero_le _) (weak_mk rfl ⟨.refl _, .refl _, .refl _, trivial⟩ ⟨⟨rfl, _, rfl, rfl, rfl, rfl, rfl⟩, trivial⟩) (fun _ => Nat.le_refl 1) ?_
  intro k i1
  rcases hx : l[k]? with _ | x
  · have hle := none_le hx
    have ek : decide ((k : Int) < (l.length : Int)) = false := decide_eq_false (by omega)
    repeat' first
      | refine Z1 ?_ | refine Z2 ?_ | refine Z5 ?_ | refine Zd ?_ | refine fz_rows (trk_all hle) 2 rfl rfl rfl ?_ | refine Zo ?_ | refine ok_seq ?_ | refine Zq ?_ | refine ok_exit ?_ | refine ok_ret ?_ | refine x_normal_then ?_
      | refine x_exit_here ?_ | refine Zv ?_ | refine Zt ?_
    rfl
  · obtain ⟨hdr, hlt⟩ := drop_some hx
    have hwx := wL_mem (w := wNum0) (List.mem_of_getElem? hx)
    have ek : decide ((k : Int) < (l.length : Int)) = true := decide_eq_true (by omega)
    repeat' first
      | refine Z1 ?_ | refine Z2 ?_ | refine Z3 ?_ | refine Z5 ?_ | refine op_place rfl rfl hlt rfl rfl rfl rfl ?_ | refine op_putk hx rfl rfl rfl rfl rfl rfl rfl rfl ?_ | refine Zd ?_ | refine Ze ?_ | refine Zf ?_ | refine Zo ?_
      | refine ok_seq ?_ | refine ok_reg ?_ | refine Zp ?_ | refine ok_block ?_ | refine ok_skip ?_ | refine x_normal_then ?_ | refine x_normal_block ?_
    exact ⟨k + 1, hlt, by (try simp only); omega, low_mk (Nat.le_of_ble_eq_true rfl) ⟨⟨rfl, rfl⟩, ⟨rfl, rfl⟩, ⟨rfl, rfl⟩, trivial⟩ ⟨⟨rfl, blt_lt rfl, trk_low _ _ _ _ rfl⟩, trivial⟩⟩
theorem eqIntS_ok (l : List (Int)) (hw : wL (wNum0) l ≤ 1048576) : PFun X 62 [.d (.im (l.map eNum)), .d (.im (l.map eNum))] (vb true) := by
  have ht : (!true) = false := rfl
  simp only [wL] at hw
  have e0 : decide ((l.length : Int) ≠ (l.length : Int)) = false := decide_eq_false (fun h => h rfl)
  refine pfun_of Tryz.func62 rfl (by decide) Tryz.ntmps62 Tryz.results62 (by simp) rfl rfl ?_
  repeat' first
    | refine Z1 ?_ | refine Z2 ?_ | refine Z5 ?_ | refine Zd ?_ | refine Zo ?_ | refine ok_seq ?_ | refine Zq ?_ | refine ok_block ?_ | refine ok_skip ?_ | refine x_normal_then ?_
  refine ok_for (ι := Nat) (fun x => envL [(0, .d (.im (l.map eNum))), (1, .d (.im (l.map eNum))), (4, vb false), (5, vi x)]) (fun x => stL []) (fun x => x ≤ l.length) (fun x => l.length - x) 0 (Nat.zero_le _) (weak_mk rfl ⟨.refl _, .refl _, .refl _, .refl _, trivial⟩ trivial) (fun _ => Nat.le_refl 0) ?_
  intro k i1
  rcases hx : l[k]? with _ | x
  · have hle := none_le hx
    have ek : decide ((k : Int) < (l.length : Int)) = false := decide_eq_false (by omega)
    repeat' first
      | refine Z1 ?_ | refine Z2 ?_ | refine Z5 ?_ | refine Zd ?_ | refine Zo ?_ | refine ok_seq ?_ | refine Zq ?_ | refine ok_exit ?_ | refine ok_ret ?_ | refine x_normal_then ?_ | refine x_exit_here ?_ | refine Zv ?_
      | refine Zt ?_
    rfl
  · obtain ⟨hdr, hlt⟩ := drop_some hx
    have hwx := wL_mem (w := wNum0) (List.mem_of_getElem? hx)
    have ek : decide ((k : Int) < (l.length : Int)) = true := decide_eq_true (by omega)
    have ee : decide (x ≠ x) = false := decide_eq_false (fun h => h rfl)
    repeat' first
      | refine Z1 ?_ | refine Z2 ?_ | refine Z5 ?_ | refine Zd ?_ | refine Zf ?_ | refine Zw ?_ | refine Zx ?_ | refine Zz (Ze ⟨rfl, rfl⟩) ?_ | refine Zo ?_ | refine ok_seq ?_ | refine ok_reg ?_
      | refine ok_draw X_mixed (by decide +kernel) ?_ | refine Zp ?_ | refine Zq ?_ | refine ok_block ?_ | refine ok_skip ?_ | refine x_normal_then ?_ | refine x_normal_block ?_
    exact ⟨k + 1, hlt, by (try simp only); omega, low_mk (Nat.zero_le _) ⟨⟨rfl, rfl⟩, ⟨rfl, rfl⟩, ⟨rfl, rfl⟩, ⟨rfl, rfl⟩, trivial⟩ trivial⟩

theorem toItemSS_ok (l : List (List Itm)) (hw : wL (wL wItm) l ≤ 1048576) : PFun X 92 [.d (.im (l.map eItms))] (.d (.im (l.map eItms))) := by
  simp only [wL] at hw
  refine pfun_of Tryz.func92 rfl (by decide) Tryz.ntmps92 Tryz.results92 (by simp) rfl rfl ?_
  repeat' first
    | refine Z1 ?_ | refine Z2 ?_ | refine Z5 ?_ | refine op_make (k := l.length) rfl rfl (by omega) rfl rfl rfl rfl rfl rfl ?_ | refine Zd ?_ | refine Zo ?_ | refine ok_seq ?_ | refine ok_block ?_
  refine ok_for (ι := Nat) (fun x => envL [(0, .d (.im (l.map eItms))), (3, .sl 0 0 0 l.length), (4, vi x)]) (fun x => stL [some (.row 0 44 1 (trk eItms l x [.d (.s (.slice none 0 0))]))]) (fun x => x ≤ l.length) (fun x => l.length - x) 0 (Nat.zero_le _) (weak_mk rfl ⟨.refl _, .refl _, .refl _, trivial⟩ ⟨⟨rfl, _, rfl, rfl, rfl, rfl, rfl⟩, trivial⟩) (fun _ => Nat.le_refl 1) ?_
  intro k i1
  rcases hx : l[k]? with _ | x
  · have hle := none_le hx
    have ek : decide ((k : Int) < (l.length : Int)) = false := decide_eq_false (by omega)
    repeat' first
      | refine Z1 ?_ | refine Z2 ?_ | refine Z5 ?_ | refine Zd ?_ | refine fz_rows (trk_all hle) 2 rfl rfl rfl ?_ | refine Zo ?_ | refine ok_seq ?_ | refine Zq ?_ | refine ok_exit ?_ | refine ok_ret ?_ | refine x_normal_then ?_
      | refine x_exit_here ?_ | refine Zv ?_ | refine Zt ?_
    rfl
  · obtain ⟨hdr, hlt⟩ := drop_some hx
    have hwx := wL_mem (w := wL wItm) (List.mem_of_getElem? hx)
    have ek : decide ((k : Int) < (l.length : Int)) = true := decide_eq_true (by omega)
    repeat' first
      | refine Z1 ?_ | refine Z2 ?_ | refine Z3 ?_ | refine Z5 ?_ | refine op_place rfl rfl hlt rfl rfl rfl rfl ?_ | refine op_putk hx rfl rfl rfl rfl rfl rfl rfl rfl ?_ | refine Zc (toItemS_ok x (by omega)) ?_ | refine Zd ?_
      | refine Ze ?_ | refine Zf ?_ | refine Zo ?_ | refine ok_seq ?_ | refine ok_reg ?_ | refine Zp ?_ | refine ok_block ?_ | refine ok_skip ?_ | refine x_normal_then ?_ | refine x_normal_block ?_
    exact ⟨k + 1, hlt, by (try simp only); omega, low_mk (Nat.le_of_ble_eq_true rfl) ⟨⟨rfl, rfl⟩, ⟨rfl, rfl⟩, ⟨rfl, rfl⟩, trivial⟩ ⟨⟨rfl, blt_lt rfl, trk_low _ _ _ _ rfl⟩, trivial⟩⟩
theorem eqItemSS_ok (l : List (List Itm)) (hw : wL (wL wItm) l ≤ 1048576) : PFun X 99 [.d (.im (l.map eItms)), .d (.im (l.map eItms))] (vb true) := by
  have ht : (!true) = false := rfl
  simp only [wL] at hw
  have e0 : decide ((l.length : Int) ≠ (l.length : Int)) = false := decide_eq_false (fun h => h rfl)
  refine pfun_of Tryz.func99 rfl (by decide) Tryz.ntmps99 Tryz.results99 (by simp) rfl rfl ?_
  repeat' first
    | refine Z1 ?_ | refine Z2 ?_ | refine Z5 ?_ | refine Zd ?_ | refine Zo ?_ | refine ok_seq ?_ | refine Zq ?_ | refine ok_block ?_ | refine ok_skip ?_ | refine x_normal_then ?_
  refine ok_for (ι := Nat) (fun x => envL [(0, .d (.im (l.map eItms))), (1, .d (.im (l.map eItms))), (4, vb false), (5, vi x)]) (fun x => stL []) (fun x => x ≤ l.length) (fun x => l.length - x) 0 (Nat.zero_le _) (weak_mk rfl ⟨.refl _, .refl _, .refl _, .refl _, trivial⟩ trivial) (fun _ => Nat.le_refl 0) ?_
  intro k i1
  rcases hx : l[k]? with _ | x
  · have hle := none_le hx
    have ek : decide ((k : Int) < (l.length : Int)) = false := decide_eq_false (by omega)
    repeat' first
      | refine Z1 ?_ | refine Z2 ?_ | refine Z5 ?_ | refine Zd ?_ | refine Zo ?_ | refine ok_seq ?_ | refine Zq ?_ | refine ok_exit ?_ | refine ok_ret ?_ | refine x_normal_then ?_ | refine x_exit_here ?_ | refine Zv ?_
      | refine Zt ?_
    rfl
  · obtain ⟨hdr, hlt⟩ := drop_some hx
    have hwx := wL_mem (w := wL wItm) (List.mem_of_getElem? hx)
    have ek : decide ((k : Int) < (l.length : Int)) = true := decide_eq_true (by omega)
    repeat' first
      | refine Z1 ?_ | refine Z2 ?_ | refine Z5 ?_ | refine Zd ?_ | refine Zf ?_ | refine Zw ?_ | refine Zx ?_ | refine Zz (Zc (eqItemS_ok x (by first | omega | (simp only [wL]; omega))) ⟨rfl, rfl⟩) ?_
      | refine Zz (Ze ⟨rfl, rfl⟩) ?_ | refine Zo ?_ | refine ok_seq ?_ | refine ok_reg ?_ | refine ok_draw X_mixed (by decide +kernel) ?_ | refine Zp ?_ | refine Zq ?_ | refine ok_block ?_ | refine ok_skip ?_ | refine x_normal_then ?_
      | refine x_normal_block ?_
    exact ⟨k + 1, hlt, by (try simp only); omega, low_mk (Nat.zero_le _) ⟨⟨rfl, rfl⟩, ⟨rfl, rfl⟩, ⟨rfl, rfl⟩, ⟨rfl, rfl⟩, trivial⟩ trivial⟩

theorem toSlot_ok (x : Slt) (hw : wSlt x ≤ 1048576) : PFun X 73 [.agg ((eSlt x).map .d)] (.agg ((eSlt x).map .d)) := by
  simp only [wSlt] at hw
  refine pfun_of Tryz.func73 rfl (by decide) Tryz.ntmps73 Tryz.results73 (by simp) rfl rfl ?_
  repeat' first
    | refine Z1 ?_ | refine Z2 ?_ | refine Zo ?_ | refine ok_ret ?_ | refine Zu ?_
  rfl
theorem eqSlot_ok (x : Slt) (hw : wSlt x ≤ 1048576) : PFun X 82 [.agg ((eSlt x).map .d), .agg ((eSlt x).map .d)] (vb true) := by
  simp only [wSlt] at hw
  have ht : (!true) = false := rfl
  have e0 : decide (x.name ≠ x.name) = false := decide_eq_false (fun h => h rfl)
  have e1 : decide (x.type ≠ x.type) = false := decide_eq_false (fun h => h rfl)
  refine pfun_of Tryz.func82 rfl (by decide) Tryz.ntmps82 Tryz.results82 (by simp) rfl rfl ?_
  repeat' first
    | refine Z1 ?_ | refine Z2 ?_ | refine Zo ?_ | refine ok_seq ?_ | refine Zq ?_ | refine ok_skip ?_ | refine ok_ret ?_ | refine x_normal_then ?_ | refine Zt ?_
  rfl

theorem toSlotS_ok (l : List (Slt)) (hw : wL (wSlt) l ≤ 1048576) : PFun X 46 [.d (.im (l.map eSlt))] (.d (.im (l.map eSlt))) := by
  simp only [wL] at hw
  refine pfun_of Tryz.func46 rfl (by decide) Tryz.ntmps46 Tryz.results46 (by simp) rfl rfl ?_
  repeat' first
    | refine Z1 ?_ | refine Z2 ?_ | refine Z5 ?_ | refine op_make (k := l.length) rfl rfl (by omega) rfl rfl rfl rfl rfl rfl ?_ | refine Zd ?_ | refine Zo ?_ | refine ok_seq ?_ | refine ok_block ?_
  refine ok_for (ι := Nat) (fun x => envL [(0, .d (.im (l.map eSlt))), (3, .sl 0 0 0 l.length), (4, vi x)]) (fun x => stL [some (.row 0 42 2 (trk eSlt l x [.d (.s (.string .empty)), .d (.s (.int .i64 0))]))]) (fun x => x ≤ l.length) (fun x => l.length - x) 0 (Nat.zero_le _) (weak_mk rfl ⟨.refl _, .refl _, .refl _, trivial⟩ ⟨⟨rfl, _, rfl, rfl, rfl, rfl, rfl⟩, trivial⟩) (fun _ => Nat.le_refl 1) ?_
  intro k i1
  rcases hx : l[k]? with _ | x
  · have hle := none_le hx
    have ek : decide ((k : Int) < (l.length : Int)) = false := decide_eq_false (by omega)
    repeat' first
      | refine Z1 ?_ | refine Z2 ?_ | refine Z5 ?_ | refine Zd ?_ | refine fz_rows (trk_all hle) 2 rfl rfl rfl ?_ | refine Zo ?_ | refine ok_seq ?_ | refine Zq ?_ | refine ok_exit ?_ | refine ok_ret ?_ | refine x_normal_then ?_
      | refine x_exit_here ?_ | refine Zv ?_ | refine Zt ?_
    rfl
  · obtain ⟨hdr, hlt⟩ := drop_some hx
    have hwx := wL_mem (w := wSlt) (List.mem_of_getElem? hx)
    have ek : decide ((k : Int) < (l.length : Int)) = true := decide_eq_true (by omega)
    repeat' first
      | refine Z1 ?_ | refine Z2 ?_ | refine Z3 ?_ | refine Z5 ?_ | refine op_place rfl rfl hlt rfl rfl rfl rfl ?_ | refine op_putk hx rfl rfl rfl rfl rfl rfl rfl rfl ?_ | refine Zc (toSlot_ok x (by omega)) ?_ | refine Zd ?_
      | refine Ze ?_ | refine Zf ?_ | refine Zo ?_ | refine ok_seq ?_ | refine ok_reg ?_ | refine Zp ?_ | refine ok_block ?_ | refine ok_skip ?_ | refine x_normal_then ?_ | refine x_normal_block ?_
    exact ⟨k + 1, hlt, by (try simp only); omega, low_mk (Nat.le_of_ble_eq_true rfl) ⟨⟨rfl, rfl⟩, ⟨rfl, rfl⟩, ⟨rfl, rfl⟩, trivial⟩ ⟨⟨rfl, blt_lt rfl, trk_low _ _ _ _ rfl⟩, trivial⟩⟩
theorem eqSlotS_ok (l : List (Slt)) (hw : wL (wSlt) l ≤ 1048576) : PFun X 60 [.d (.im (l.map eSlt)), .d (.im (l.map eSlt))] (vb true) := by
  have ht : (!true) = false := rfl
  simp only [wL] at hw
  have e0 : decide ((l.length : Int) ≠ (l.length : Int)) = false := decide_eq_false (fun h => h rfl)
  refine pfun_of Tryz.func60 rfl (by decide) Tryz.ntmps60 Tryz.results60 (by simp) rfl rfl ?_
  repeat' first
    | refine Z1 ?_ | refine Z2 ?_ | refine Z5 ?_ | refine Zd ?_ | refine Zo ?_ | refine ok_seq ?_ | refine Zq ?_ | refine ok_block ?_ | refine ok_skip ?_ | refine x_normal_then ?_
  refine ok_for (ι := Nat) (fun x => envL [(0, .d (.im (l.map eSlt))), (1, .d (.im (l.map eSlt))), (4, vb false), (5, vi x)]) (fun x => stL []) (fun x => x ≤ l.length) (fun x => l.length - x) 0 (Nat.zero_le _) (weak_mk rfl ⟨.refl _, .refl _, .refl _, .refl _, trivial⟩ trivial) (fun _ => Nat.le_refl 0) ?_
  intro k i1
  rcases hx : l[k]? with _ | x
  · have hle := none_le hx
    have ek : decide ((k : Int) < (l.length : Int)) = false := decide_eq_false (by omega)
    repeat' first
      | refine Z1 ?_ | refine Z2 ?_ | refine Z5 ?_ | refine Zd ?_ | refine Zo ?_ | refine ok_seq ?_ | refine Zq ?_ | refine ok_exit ?_ | refine ok_ret ?_ | refine x_normal_then ?_ | refine x_exit_here ?_ | refine Zv ?_
      | refine Zt ?_
    rfl
  · obtain ⟨hdr, hlt⟩ := drop_some hx
    have hwx := wL_mem (w := wSlt) (List.mem_of_getElem? hx)
    have ek : decide ((k : Int) < (l.length : Int)) = true := decide_eq_true (by omega)
    repeat' first
      | refine Z1 ?_ | refine Z2 ?_ | refine Z5 ?_ | refine Zd ?_ | refine Zf ?_ | refine Zw ?_ | refine Zx ?_ | refine Zz (Zc (eqSlot_ok x (by omega)) ⟨rfl, rfl⟩) ?_ | refine Zz (Ze ⟨rfl, rfl⟩) ?_ | refine Zo ?_ | refine ok_seq ?_
      | refine ok_reg ?_ | refine ok_draw X_mixed (by decide +kernel) ?_ | refine Zp ?_ | refine Zq ?_ | refine ok_block ?_ | refine ok_skip ?_ | refine x_normal_then ?_ | refine x_normal_block ?_
    exact ⟨k + 1, hlt, by (try simp only); omega, low_mk (Nat.zero_le _) ⟨⟨rfl, rfl⟩, ⟨rfl, rfl⟩, ⟨rfl, rfl⟩, ⟨rfl, rfl⟩, trivial⟩ trivial⟩

theorem toStm_ok (x : Sm) (hw : wSm x ≤ 1048576) : PFun X 74 [.agg ((eSm x).map .d)] (.agg ((eSm x).map .d)) := by
  simp only [wSm, wL] at hw
  refine pfun_of Tryz.func74 rfl (by decide) Tryz.ntmps74 Tryz.results74 (by simp) rfl rfl ?_
  repeat' first
    | refine Z1 ?_ | refine Z2 ?_ | refine Z5 ?_ | refine Zc (toStringS_ok x.outs (by simp only [wL]; omega)) ?_ | refine Zc (toItemS_ok x.code (by simp only [wL]; omega)) ?_
    | refine Zc (toItemSS_ok x.args (by simp only [wL]; omega)) ?_ | refine Zo ?_ | refine ok_ret ?_ | refine Zu ?_
  rfl
theorem eqStm_ok (x : Sm) (hw : wSm x ≤ 1048576) : PFun X 83 [.agg ((eSm x).map .d), .agg ((eSm x).map .d)] (vb true) := by
  simp only [wSm, wL] at hw
  have ht : (!true) = false := rfl
  have e0 : decide (x.kind ≠ x.kind) = false := decide_eq_false (fun h => h rfl)
  have e1 : decide (x.name ≠ x.name) = false := decide_eq_false (fun h => h rfl)
  have e2 : decide (x.pos ≠ x.pos) = false := decide_eq_false (fun h => h rfl)
  refine pfun_of Tryz.func83 rfl (by decide) Tryz.ntmps83 Tryz.results83 (by simp) rfl rfl ?_
  repeat' first
    | refine Z1 ?_ | refine Z2 ?_ | refine Z5 ?_ | refine Zc (eqStringS_ok x.outs (by first | omega | (simp only [wL]; omega))) ?_ | refine Zc (eqItemS_ok x.code (by first | omega | (simp only [wL]; omega))) ?_
    | refine Zc (eqItemSS_ok x.args (by first | omega | (simp only [wL]; omega))) ?_ | refine Zo ?_ | refine ok_seq ?_ | refine Zq ?_ | refine ok_skip ?_ | refine ok_ret ?_ | refine x_normal_then ?_ | refine Zt ?_
  rfl

theorem toStmS_ok (l : List (Sm)) (hw : wL (wSm) l ≤ 1048576) : PFun X 49 [.d (.im (l.map eSm))] (.d (.im (l.map eSm))) := by
  simp only [wL] at hw
  refine pfun_of Tryz.func49 rfl (by decide) Tryz.ntmps49 Tryz.results49 (by simp) rfl rfl ?_
  repeat' first
    | refine Z1 ?_ | refine Z2 ?_ | refine Z5 ?_ | refine op_make (k := l.length) rfl rfl (by omega) rfl rfl rfl rfl rfl rfl ?_ | refine Zd ?_ | refine Zo ?_ | refine ok_seq ?_ | refine ok_block ?_
  refine ok_for (ι := Nat) (fun x => envL [(0, .d (.im (l.map eSm))), (3, .sl 0 0 0 l.length), (4, vi x)]) (fun x => stL [some (.row 0 47 6 (trk eSm l x [.d (.s (.int .i64 0)), .d (.s (.string .empty)), .d (.s (.int .i64 0)), .d (.s (.slice none 0 0)), .d (.s (.slice none 0 0)), .d (.s (.slice none 0 0))]))]) (fun x => x ≤ l.length) (fun x => l.length - x) 0 (Nat.zero_le _) (weak_mk rfl ⟨.refl _, .refl _, .refl _, trivial⟩ ⟨⟨rfl, _, rfl, rfl, rfl, rfl, rfl⟩, trivial⟩) (fun _ => Nat.le_refl 1) ?_
  intro k i1
  rcases hx : l[k]? with _ | x
  · have hle := none_le hx
    have ek : decide ((k : Int) < (l.length : Int)) = false := decide_eq_false (by omega)
    repeat' first
      | refine Z1 ?_ | refine Z2 ?_ | refine Z5 ?_ | refine Zd ?_ | refine fz_rows (trk_all hle) 2 rfl rfl rfl ?_ | refine Zo ?_ | refine ok_seq ?_ | refine Zq ?_ | refine ok_exit ?_ | refine ok_ret ?_ | refine x_normal_then ?_
      | refine x_exit_here ?_ | refine Zv ?_ | refine Zt ?_
    rfl
  · obtain ⟨hdr, hlt⟩ := drop_some hx
    have hwx := wL_mem (w := wSm) (List.mem_of_getElem? hx)
    have ek : decide ((k : Int) < (l.length : Int)) = true := decide_eq_true (by omega)
    repeat' first
      | refine Z1 ?_ | refine Z2 ?_ | refine Z3 ?_ | refine Z5 ?_ | refine op_place rfl rfl hlt rfl rfl rfl rfl ?_ | refine op_putk hx rfl rfl rfl rfl rfl rfl rfl rfl ?_ | refine Zc (toStm_ok x (by omega)) ?_ | refine Zd ?_
      | refine Ze ?_ | refine Zf ?_ | refine Zo ?_ | refine ok_seq ?_ | refine ok_reg ?_ | refine Zp ?_ | refine ok_block ?_ | refine ok_skip ?_ | refine x_normal_then ?_ | refine x_normal_block ?_
    exact ⟨k + 1, hlt, by (try simp only); omega, low_mk (Nat.le_of_ble_eq_true rfl) ⟨⟨rfl, rfl⟩, ⟨rfl, rfl⟩, ⟨rfl, rfl⟩, trivial⟩ ⟨⟨rfl, blt_lt rfl, trk_low _ _ _ _ rfl⟩, trivial⟩⟩
theorem eqStmS_ok (l : List (Sm)) (hw : wL (wSm) l ≤ 1048576) : PFun X 63 [.d (.im (l.map eSm)), .d (.im (l.map eSm))] (vb true) := by
  have ht : (!true) = false := rfl
  simp only [wL] at hw
  have e0 : decide ((l.length : Int) ≠ (l.length : Int)) = false := decide_eq_false (fun h => h rfl)
  refine pfun_of Tryz.func63 rfl (by decide) Tryz.ntmps63 Tryz.results63 (by simp) rfl rfl ?_
  repeat' first
    | refine Z1 ?_ | refine Z2 ?_ | refine Z5 ?_ | refine Zd ?_ | refine Zo ?_ | refine ok_seq ?_ | refine Zq ?_ | refine ok_block ?_ | refine ok_skip ?_ | refine x_normal_then ?_
  refine ok_for (ι := Nat) (fun x => envL [(0, .d (.im (l.map eSm))), (1, .d (.im (l.map eSm))), (4, vb false), (5, vi x)]) (fun x => stL []) (fun x => x ≤ l.length) (fun x => l.length - x) 0 (Nat.zero_le _) (weak_mk rfl ⟨.refl _, .refl _, .refl _, .refl _, trivial⟩ trivial) (fun _ => Nat.le_refl 0) ?_
  intro k i1
  rcases hx : l[k]? with _ | x
  · have hle := none_le hx
    have ek : decide ((k : Int) < (l.length : Int)) = false := decide_eq_false (by omega)
    repeat' first
      | refine Z1 ?_ | refine Z2 ?_ | refine Z5 ?_ | refine Zd ?_ | refine Zo ?_ | refine ok_seq ?_ | refine Zq ?_ | refine ok_exit ?_ | refine ok_ret ?_ | refine x_normal_then ?_ | refine x_exit_here ?_ | refine Zv ?_
      | refine Zt ?_
    rfl
  · obtain ⟨hdr, hlt⟩ := drop_some hx
    have hwx := wL_mem (w := wSm) (List.mem_of_getElem? hx)
    have ek : decide ((k : Int) < (l.length : Int)) = true := decide_eq_true (by omega)
    repeat' first
      | refine Z1 ?_ | refine Z2 ?_ | refine Z5 ?_ | refine Zd ?_ | refine Zf ?_ | refine Zw ?_ | refine Zx ?_ | refine Zz (Zc (eqStm_ok x (by omega)) ⟨rfl, rfl⟩) ?_ | refine Zz (Ze ⟨rfl, rfl⟩) ?_ | refine Zo ?_ | refine ok_seq ?_
      | refine ok_reg ?_ | refine ok_draw X_mixed (by decide +kernel) ?_ | refine Zp ?_ | refine Zq ?_ | refine ok_block ?_ | refine ok_skip ?_ | refine x_normal_then ?_ | refine x_normal_block ?_
    exact ⟨k + 1, hlt, by (try simp only); omega, low_mk (Nat.zero_le _) ⟨⟨rfl, rfl⟩, ⟨rfl, rfl⟩, ⟨rfl, rfl⟩, ⟨rfl, rfl⟩, trivial⟩ trivial⟩

theorem toClass_ok (x : Cls) (hw : wCls x ≤ 1048576) : PFun X 24 [.agg ((eCls x).map .d)] (.agg ((eCls x).map .d)) := by
  simp only [wCls, wL] at hw
  refine pfun_of Tryz.func24 rfl (by decide) Tryz.ntmps24 Tryz.results24 (by simp) rfl rfl ?_
  repeat' first
    | refine Z1 ?_ | refine Z2 ?_ | refine Z5 ?_ | refine Zc (toSlotS_ok x.ins (by simp only [wL]; omega)) ?_ | refine Zc (toSlotS_ok x.outs (by simp only [wL]; omega)) ?_
    | refine Zc (toStringS_ok x.locs (by simp only [wL]; omega)) ?_ | refine Zc (toIntS_ok x.mems (by simp only [wL]; omega)) ?_ | refine Zc (toIntS_ok x.insts (by simp only [wL]; omega)) ?_
    | refine Zc (toStmS_ok x.body (by simp only [wL]; omega)) ?_ | refine Zo ?_ | refine ok_ret ?_ | refine Zu ?_
  rfl
theorem eqClass_ok (x : Cls) (hw : wCls x ≤ 1048576) : PFun X 31 [.agg ((eCls x).map .d), .agg ((eCls x).map .d)] (vb true) := by
  simp only [wCls, wL] at hw
  have ht : (!true) = false := rfl
  have e0 : decide (x.name ≠ x.name) = false := decide_eq_false (fun h => h rfl)
  refine pfun_of Tryz.func31 rfl (by decide) Tryz.ntmps31 Tryz.results31 (by simp) rfl rfl ?_
  repeat' first
    | refine Z1 ?_ | refine Z2 ?_ | refine Z5 ?_ | refine Zc (eqSlotS_ok x.ins (by first | omega | (simp only [wL]; omega))) ?_ | refine Zc (eqSlotS_ok x.outs (by first | omega | (simp only [wL]; omega))) ?_
    | refine Zc (eqStringS_ok x.locs (by first | omega | (simp only [wL]; omega))) ?_ | refine Zc (eqIntS_ok x.mems (by first | omega | (simp only [wL]; omega))) ?_
    | refine Zc (eqIntS_ok x.insts (by first | omega | (simp only [wL]; omega))) ?_ | refine Zc (eqStmS_ok x.body (by first | omega | (simp only [wL]; omega))) ?_ | refine Zo ?_ | refine ok_seq ?_ | refine Zq ?_ | refine ok_skip ?_
    | refine ok_ret ?_ | refine x_normal_then ?_ | refine Zt ?_
  rfl

theorem toClassS_ok (l : List (Cls)) (hw : wL (wCls) l ≤ 1048576) : PFun X 14 [.d (.im (l.map eCls))] (.d (.im (l.map eCls))) := by
  simp only [wL] at hw
  refine pfun_of Tryz.func14 rfl (by decide) Tryz.ntmps14 Tryz.results14 (by simp) rfl rfl ?_
  repeat' first
    | refine Z1 ?_ | refine Z2 ?_ | refine Z5 ?_ | refine op_make (k := l.length) rfl rfl (by omega) rfl rfl rfl rfl rfl rfl ?_ | refine Zd ?_ | refine Zo ?_ | refine ok_seq ?_ | refine ok_block ?_
  refine ok_for (ι := Nat) (fun x => envL [(0, .d (.im (l.map eCls))), (3, .sl 0 0 0 l.length), (4, vi x)]) (fun x => stL [some (.row 0 40 7 (trk eCls l x [.d (.s (.string .empty)), .d (.s (.slice none 0 0)), .d (.s (.slice none 0 0)), .d (.s (.slice none 0 0)), .d (.s (.slice none 0 0)), .d (.s (.slice none 0 0)), .d (.s (.slice none 0 0))]))]) (fun x => x ≤ l.length) (fun x => l.length - x) 0 (Nat.zero_le _) (weak_mk rfl ⟨.refl _, .refl _, .refl _, trivial⟩ ⟨⟨rfl, _, rfl, rfl, rfl, rfl, rfl⟩, trivial⟩) (fun _ => Nat.le_refl 1) ?_
  intro k i1
  rcases hx : l[k]? with _ | x
  · have hle := none_le hx
    have ek : decide ((k : Int) < (l.length : Int)) = false := decide_eq_false (by omega)
    repeat' first
      | refine Z1 ?_ | refine Z2 ?_ | refine Z5 ?_ | refine Zd ?_ | refine fz_rows (trk_all hle) 2 rfl rfl rfl ?_ | refine Zo ?_ | refine ok_seq ?_ | refine Zq ?_ | refine ok_exit ?_ | refine ok_ret ?_ | refine x_normal_then ?_
      | refine x_exit_here ?_ | refine Zv ?_ | refine Zt ?_
    rfl
  · obtain ⟨hdr, hlt⟩ := drop_some hx
    have hwx := wL_mem (w := wCls) (List.mem_of_getElem? hx)
    have ek : decide ((k : Int) < (l.length : Int)) = true := decide_eq_true (by omega)
    repeat' first
      | refine Z1 ?_ | refine Z2 ?_ | refine Z3 ?_ | refine Z5 ?_ | refine op_place rfl rfl hlt rfl rfl rfl rfl ?_ | refine op_putk hx rfl rfl rfl rfl rfl rfl rfl rfl ?_ | refine Zc (toClass_ok x (by omega)) ?_ | refine Zd ?_
      | refine Ze ?_ | refine Zf ?_ | refine Zo ?_ | refine ok_seq ?_ | refine ok_reg ?_ | refine Zp ?_ | refine ok_block ?_ | refine ok_skip ?_ | refine x_normal_then ?_ | refine x_normal_block ?_
    exact ⟨k + 1, hlt, by (try simp only); omega, low_mk (Nat.le_of_ble_eq_true rfl) ⟨⟨rfl, rfl⟩, ⟨rfl, rfl⟩, ⟨rfl, rfl⟩, trivial⟩ ⟨⟨rfl, blt_lt rfl, trk_low _ _ _ _ rfl⟩, trivial⟩⟩
theorem eqClassS_ok (l : List (Cls)) (hw : wL (wCls) l ≤ 1048576) : PFun X 17 [.d (.im (l.map eCls)), .d (.im (l.map eCls))] (vb true) := by
  have ht : (!true) = false := rfl
  simp only [wL] at hw
  have e0 : decide ((l.length : Int) ≠ (l.length : Int)) = false := decide_eq_false (fun h => h rfl)
  refine pfun_of Tryz.func17 rfl (by decide) Tryz.ntmps17 Tryz.results17 (by simp) rfl rfl ?_
  repeat' first
    | refine Z1 ?_ | refine Z2 ?_ | refine Z5 ?_ | refine Zd ?_ | refine Zo ?_ | refine ok_seq ?_ | refine Zq ?_ | refine ok_block ?_ | refine ok_skip ?_ | refine x_normal_then ?_
  refine ok_for (ι := Nat) (fun x => envL [(0, .d (.im (l.map eCls))), (1, .d (.im (l.map eCls))), (4, vb false), (5, vi x)]) (fun x => stL []) (fun x => x ≤ l.length) (fun x => l.length - x) 0 (Nat.zero_le _) (weak_mk rfl ⟨.refl _, .refl _, .refl _, .refl _, trivial⟩ trivial) (fun _ => Nat.le_refl 0) ?_
  intro k i1
  rcases hx : l[k]? with _ | x
  · have hle := none_le hx
    have ek : decide ((k : Int) < (l.length : Int)) = false := decide_eq_false (by omega)
    repeat' first
      | refine Z1 ?_ | refine Z2 ?_ | refine Z5 ?_ | refine Zd ?_ | refine Zo ?_ | refine ok_seq ?_ | refine Zq ?_ | refine ok_exit ?_ | refine ok_ret ?_ | refine x_normal_then ?_ | refine x_exit_here ?_ | refine Zv ?_
      | refine Zt ?_
    rfl
  · obtain ⟨hdr, hlt⟩ := drop_some hx
    have hwx := wL_mem (w := wCls) (List.mem_of_getElem? hx)
    have ek : decide ((k : Int) < (l.length : Int)) = true := decide_eq_true (by omega)
    repeat' first
      | refine Z1 ?_ | refine Z2 ?_ | refine Z5 ?_ | refine Zd ?_ | refine Zf ?_ | refine Zw ?_ | refine Zx ?_ | refine Zz (Zc (eqClass_ok x (by omega)) ⟨rfl, rfl⟩) ?_ | refine Zz (Ze ⟨rfl, rfl⟩) ?_ | refine Zo ?_
      | refine ok_seq ?_ | refine ok_reg ?_ | refine ok_draw X_mixed (by decide +kernel) ?_ | refine Zp ?_ | refine Zq ?_ | refine ok_block ?_ | refine ok_skip ?_ | refine x_normal_then ?_ | refine x_normal_block ?_
    exact ⟨k + 1, hlt, by (try simp only); omega, low_mk (Nat.zero_le _) ⟨⟨rfl, rfl⟩, ⟨rfl, rfl⟩, ⟨rfl, rfl⟩, ⟨rfl, rfl⟩, trivial⟩ trivial⟩

theorem toMachine_ok (l : List Cls) (hw : wL wCls l ≤ 1048576) : PFun X 6 [.agg [.d (.im (l.map eCls))]] (.agg [.d (.im (l.map eCls))]) := by
  refine pfun_of Tryz.func6 rfl (by decide) Tryz.ntmps6 Tryz.results6 (by simp) rfl rfl ?_
  repeat' first
    | refine Z1 ?_ | refine Z2 ?_ | refine Z5 ?_ | refine Zc (toClassS_ok l hw) ?_ | refine Zo ?_ | refine ok_ret ?_ | refine Zu ?_
  rfl
theorem eqMachine_ok (l : List Cls) (hw : wL wCls l ≤ 1048576) : PFun X 8 [.agg [.d (.im (l.map eCls))], .agg [.d (.im (l.map eCls))]] (vb true) := by
  have ht : (!true) = false := rfl
  refine pfun_of Tryz.func8 rfl (by decide) Tryz.ntmps8 Tryz.results8 (by simp) rfl rfl ?_
  repeat' first
    | refine Z1 ?_ | refine Z2 ?_ | refine Z5 ?_ | refine Zc (eqClassS_ok l hw) ?_ | refine Zo ?_ | refine ok_seq ?_ | refine Zq ?_ | refine ok_skip ?_ | refine ok_ret ?_ | refine x_normal_then ?_ | refine Zt ?_
  rfl

end Go.Pm
