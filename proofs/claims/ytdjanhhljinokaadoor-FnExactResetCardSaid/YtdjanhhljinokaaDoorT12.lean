/- The laws' copies and comparisons (printed by gen_to.py). -/
import Derived.Test.YtdjanhhljinokaaDoorT9
import Derived.Test.YtdjanhhljinokaaDoorT7
import Derived.Test.YtdjanhhljinokaaDoorT11
import Derived.Test.YtdjanhhljinokaaDoorT10
set_option linter.unusedVariables false
set_option linter.unusedSimpArgs false
namespace Go.Pm
attribute [local irreducible] AR Ok inBlock andThen endQ aoper
set_option maxHeartbeats 1000000
open Go.Proofs
theorem wL_mem {α : Type} {w : α → Nat} {x : α} : ∀ {l : List α}, x ∈ l → w x ≤ (l.map w).sum
  | y :: l, h => by
    simp only [List.map_cons, List.sum_cons]
    rcases List.mem_cons.1 h with rfl | h
    · omega
    · have := wL_mem (w := w) h; omega

theorem toItem_ok (x : Itm) (hw : wItm x ≤ 1048576) : PFun X 90 [.agg ((eItm x).map .d)] (.agg ((eItm x).map .d)) := by
  simp only [wItm] at hw
  refine pfun_of Tryd.func90 rfl (by decide) Tryd.ntmps90 Tryd.results90 (by simp) rfl rfl ?_
  repeat' first
    | refine Z1 ?_ | refine Z2 ?_ | refine Zo ?_ | refine ok_ret ?_ | refine Zu ?_
  rfl
theorem eqItem_ok (x : Itm) (hw : wItm x ≤ 1048576) : PFun X 91 [.agg ((eItm x).map .d), .agg ((eItm x).map .d)] (vb true) := by
  simp only [wItm] at hw
  have ht : (!true) = false := rfl
  have e0 : decide (x.op ≠ x.op) = false := decide_eq_false (fun h => h rfl)
  have e1 : decide (x.val ≠ x.val) = false := decide_eq_false (fun h => h rfl)
  have e2 : decide (x.name ≠ x.name) = false := decide_eq_false (fun h => h rfl)
  refine pfun_of Tryd.func91 rfl (by decide) Tryd.ntmps91 Tryd.results91 (by simp) rfl rfl ?_
  repeat' first
    | refine Z1 ?_ | refine Z2 ?_ | refine Zo ?_ | refine ok_seq ?_ | refine Zq ?_ | refine ok_skip ?_ | refine ok_ret ?_ | refine x_normal_then ?_ | refine Zt ?_
  rfl

theorem toItemS_ok (l : List (Itm)) (hw : wL (wItm) l ≤ 1048576) : PFun X 80 [.d (.im (l.map eItm))] (.d (.im (l.map eItm))) := by
  simp only [wL] at hw
  refine pfun_of Tryd.func80 rfl (by decide) Tryd.ntmps80 Tryd.results80 (by simp) rfl rfl ?_
  repeat' first
    | refine Z1 ?_ | refine Z2 ?_ | refine Z5 ?_ | refine op_make (k := l.length) rfl rfl (by omega) rfl rfl rfl rfl rfl rfl ?_ | refine Zd ?_ | refine Zo ?_ | refine ok_seq ?_ | refine ok_block ?_
  refine ok_for (ι := Nat) (fun x => envL [(0, .d (.im (l.map eItm))), (3, .sl 0 0 0 l.length), (4, vi x)]) (fun x => stL [some (.row 0 119 3 (trk eItm l x [.d (.s (.int .i64 0)), .d (.s (.int .i64 0)), .d (.s (.string .empty))]))]) (fun x => x ≤ l.length) (fun x => l.length - x) 0 (Nat.zero_le _) (weak_mk rfl ⟨.refl _, .refl _, .refl _, trivial⟩ ⟨⟨rfl, _, rfl, rfl, rfl, rfl, rfl⟩, trivial⟩) (fun _ => Nat.le_refl 1) ?_
  intro k i1
  rcases hx : l[k]? with _ | x
  · have hle := none_le hx
    have ek : decide ((k : Int) < (l.length : Int)) = false := decide_eq_false (by omega)
    repeat' first
      | refine Z1 ?_ | refine Z2 ?_ | refine Z5 ?_ | refine Zd ?_ | refine fz_rows (trk_all hle) 2 rfl rfl rfl ?_ | refine Zo ?_ | refine ok_seq ?_ | refine Zq ?_ | refine ok_exit ?_ | refine ok_ret ?_ | refine x_normal_then ?_
      | refine x_exit_here ?_ | refine Zv ?_ | refine Zt ?_
    rfl
  · obtain ⟨hdr, hlt⟩ := drop_some hx
    have hwx := wL_mem (w := wItm) (List.mem_of_getElem? hx)
    have ek : decide ((k : Int) < (l.length : Int)) = true := decide_eq_true (by omega)
    repeat' first
      | refine Z1 ?_ | refine Z2 ?_ | refine Z3 ?_ | refine Z5 ?_ | refine op_place rfl rfl hlt rfl rfl rfl rfl ?_ | refine op_putk hx rfl rfl rfl rfl rfl rfl rfl rfl ?_ | refine Zc (toItem_ok x (by omega)) ?_ | refine Zd ?_ | refine Ze ?_
      | refine Zf ?_ | refine Zo ?_ | refine ok_seq ?_ | refine ok_reg ?_ | refine Zp ?_ | refine ok_block ?_ | refine ok_skip ?_ | refine x_normal_then ?_ | refine x_normal_block ?_
    exact ⟨k + 1, hlt, by (try simp only); omega, low_mk (Nat.le_of_ble_eq_true rfl) ⟨⟨rfl, rfl⟩, ⟨rfl, rfl⟩, ⟨rfl, rfl⟩, trivial⟩ ⟨⟨rfl, blt_lt rfl, trk_low _ _ _ _ rfl⟩, trivial⟩⟩
theorem eqItemS_ok (l : List (Itm)) (hw : wL (wItm) l ≤ 1048576) : PFun X 83 [.d (.im (l.map eItm)), .d (.im (l.map eItm))] (vb true) := by
  have ht : (!true) = false := rfl
  simp only [wL] at hw
  have e0 : decide ((l.length : Int) ≠ (l.length : Int)) = false := decide_eq_false (fun h => h rfl)
  refine pfun_of Tryd.func83 rfl (by decide) Tryd.ntmps83 Tryd.results83 (by simp) rfl rfl ?_
  repeat' first
    | refine Z1 ?_ | refine Z2 ?_ | refine Z5 ?_ | refine Zd ?_ | refine Zo ?_ | refine ok_seq ?_ | refine Zq ?_ | refine ok_block ?_ | refine ok_skip ?_ | refine x_normal_then ?_
  refine ok_for (ι := Nat) (fun x => envL [(0, .d (.im (l.map eItm))), (1, .d (.im (l.map eItm))), (4, vb false), (5, vi x)]) (fun x => stL []) (fun x => x ≤ l.length) (fun x => l.length - x) 0 (Nat.zero_le _) (weak_mk rfl ⟨.refl _, .refl _, .refl _, .refl _, trivial⟩ trivial) (fun _ => Nat.le_refl 0) ?_
  intro k i1
  rcases hx : l[k]? with _ | x
  · have hle := none_le hx
    have ek : decide ((k : Int) < (l.length : Int)) = false := decide_eq_false (by omega)
    repeat' first
      | refine Z1 ?_ | refine Z2 ?_ | refine Z5 ?_ | refine Zd ?_ | refine Zo ?_ | refine ok_seq ?_ | refine Zq ?_ | refine ok_exit ?_ | refine ok_ret ?_ | refine x_normal_then ?_ | refine x_exit_here ?_ | refine Zv ?_ | refine Zt ?_
    rfl
  · obtain ⟨hdr, hlt⟩ := drop_some hx
    have hwx := wL_mem (w := wItm) (List.mem_of_getElem? hx)
    have ek : decide ((k : Int) < (l.length : Int)) = true := decide_eq_true (by omega)
    repeat' first
      | refine Z1 ?_ | refine Z2 ?_ | refine Z5 ?_ | refine Zd ?_ | refine Zf ?_ | refine Zw ?_ | refine Zx ?_ | refine Zz (Zc (eqItem_ok x (by omega)) ⟨rfl, rfl⟩) ?_ | refine Zz (Ze ⟨rfl, rfl⟩) ?_ | refine Zo ?_ | refine ok_seq ?_
      | refine ok_reg ?_ | refine ok_draw X_mixed (by decide +kernel) ?_ | refine Zp ?_ | refine Zq ?_ | refine ok_block ?_ | refine ok_skip ?_ | refine x_normal_then ?_ | refine x_normal_block ?_
    exact ⟨k + 1, hlt, by (try simp only); omega, low_mk (Nat.zero_le _) ⟨⟨rfl, rfl⟩, ⟨rfl, rfl⟩, ⟨rfl, rfl⟩, ⟨rfl, rfl⟩, trivial⟩ trivial⟩

theorem toStringS_ok (l : List (ByteArray)) (hw : wL (wStr) l ≤ 1048576) : PFun X 38 [.d (.im (l.map eStr))] (.d (.im (l.map eStr))) := by
  simp only [wL] at hw
  refine pfun_of Tryd.func38 rfl (by decide) Tryd.ntmps38 Tryd.results38 (by simp) rfl rfl ?_
  repeat' first
    | refine Z1 ?_ | refine Z2 ?_ | refine Z5 ?_ | refine op_make (k := l.length) rfl rfl (by omega) rfl rfl rfl rfl rfl rfl ?_ | refine Zd ?_ | refine Zo ?_ | refine ok_seq ?_ | refine ok_block ?_
  refine ok_for (ι := Nat) (fun x => envL [(0, .d (.im (l.map eStr))), (3, .sl 0 0 0 l.length), (4, vi x)]) (fun x => stL [some (.row 0 9 1 (trk eStr l x [.d (.s (.string .empty))]))]) (fun x => x ≤ l.length) (fun x => l.length - x) 0 (Nat.zero_le _) (weak_mk rfl ⟨.refl _, .refl _, .refl _, trivial⟩ ⟨⟨rfl, _, rfl, rfl, rfl, rfl, rfl⟩, trivial⟩) (fun _ => Nat.le_refl 1) ?_
  intro k i1
  rcases hx : l[k]? with _ | x
  · have hle := none_le hx
    have ek : decide ((k : Int) < (l.length : Int)) = false := decide_eq_false (by omega)
    repeat' first
      | refine Z1 ?_ | refine Z2 ?_ | refine Z5 ?_ | refine Zd ?_ | refine fz_rows (trk_all hle) 2 rfl rfl rfl ?_ | refine Zo ?_ | refine ok_seq ?_ | refine Zq ?_ | refine ok_exit ?_ | refine ok_ret ?_ | refine x_normal_then ?_
      | refine x_exit_here ?_ | refine Zv ?_ | refine Zt ?_
    rfl
  · obtain ⟨hdr, hlt⟩ := drop_some hx
    have hwx := wL_mem (w := wStr) (List.mem_of_getElem? hx)
    have ek : decide ((k : Int) < (l.length : Int)) = true := decide_eq_true (by omega)
    repeat' first
      | refine Z1 ?_ | refine Z2 ?_ | refine Z3 ?_ | refine Z5 ?_ | refine op_place rfl rfl hlt rfl rfl rfl rfl ?_ | refine op_putk hx rfl rfl rfl rfl rfl rfl rfl rfl ?_ | refine Zd ?_ | refine Ze ?_ | refine Zf ?_ | refine Zo ?_
      | refine ok_seq ?_ | refine ok_reg ?_ | refine Zp ?_ | refine ok_block ?_ | refine ok_skip ?_ | refine x_normal_then ?_ | refine x_normal_block ?_
    exact ⟨k + 1, hlt, by (try simp only); omega, low_mk (Nat.le_of_ble_eq_true rfl) ⟨⟨rfl, rfl⟩, ⟨rfl, rfl⟩, ⟨rfl, rfl⟩, trivial⟩ ⟨⟨rfl, blt_lt rfl, trk_low _ _ _ _ rfl⟩, trivial⟩⟩
theorem eqStringS_ok (l : List (ByteArray)) (hw : wL (wStr) l ≤ 1048576) : PFun X 49 [.d (.im (l.map eStr)), .d (.im (l.map eStr))] (vb true) := by
  have ht : (!true) = false := rfl
  simp only [wL] at hw
  have e0 : decide ((l.length : Int) ≠ (l.length : Int)) = false := decide_eq_false (fun h => h rfl)
  refine pfun_of Tryd.func49 rfl (by decide) Tryd.ntmps49 Tryd.results49 (by simp) rfl rfl ?_
  repeat' first
    | refine Z1 ?_ | refine Z2 ?_ | refine Z5 ?_ | refine Zd ?_ | refine Zo ?_ | refine ok_seq ?_ | refine Zq ?_ | refine ok_block ?_ | refine ok_skip ?_ | refine x_normal_then ?_
  refine ok_for (ι := Nat) (fun x => envL [(0, .d (.im (l.map eStr))), (1, .d (.im (l.map eStr))), (4, vb false), (5, vi x)]) (fun x => stL []) (fun x => x ≤ l.length) (fun x => l.length - x) 0 (Nat.zero_le _) (weak_mk rfl ⟨.refl _, .refl _, .refl _, .refl _, trivial⟩ trivial) (fun _ => Nat.le_refl 0) ?_
  intro k i1
  rcases hx : l[k]? with _ | x
  · have hle := none_le hx
    have ek : decide ((k : Int) < (l.length : Int)) = false := decide_eq_false (by omega)
    repeat' first
      | refine Z1 ?_ | refine Z2 ?_ | refine Z5 ?_ | refine Zd ?_ | refine Zo ?_ | refine ok_seq ?_ | refine Zq ?_ | refine ok_exit ?_ | refine ok_ret ?_ | refine x_normal_then ?_ | refine x_exit_here ?_ | refine Zv ?_ | refine Zt ?_
    rfl
  · obtain ⟨hdr, hlt⟩ := drop_some hx
    have hwx := wL_mem (w := wStr) (List.mem_of_getElem? hx)
    have ek : decide ((k : Int) < (l.length : Int)) = true := decide_eq_true (by omega)
    have ee : decide (x ≠ x) = false := decide_eq_false (fun h => h rfl)
    repeat' first
      | refine Z1 ?_ | refine Z2 ?_ | refine Z5 ?_ | refine Zd ?_ | refine Zf ?_ | refine Zw ?_ | refine Zx ?_ | refine Zz (Ze ⟨rfl, rfl⟩) ?_ | refine Zo ?_ | refine ok_seq ?_ | refine ok_reg ?_ | refine ok_draw X_mixed (by decide +kernel) ?_
      | refine Zp ?_ | refine Zq ?_ | refine ok_block ?_ | refine ok_skip ?_ | refine x_normal_then ?_ | refine x_normal_block ?_
    exact ⟨k + 1, hlt, by (try simp only); omega, low_mk (Nat.zero_le _) ⟨⟨rfl, rfl⟩, ⟨rfl, rfl⟩, ⟨rfl, rfl⟩, ⟨rfl, rfl⟩, trivial⟩ trivial⟩

theorem toIntS_ok (l : List (Int)) (hw : wL (wNum0) l ≤ 1048576) : PFun X 39 [.d (.im (l.map eNum))] (.d (.im (l.map eNum))) := by
  simp only [wL] at hw
  refine pfun_of Tryd.func39 rfl (by decide) Tryd.ntmps39 Tryd.results39 (by simp) rfl rfl ?_
  repeat' first
    | refine Z1 ?_ | refine Z2 ?_ | refine Z5 ?_ | refine op_make (k := l.length) rfl rfl (by omega) rfl rfl rfl rfl rfl rfl ?_ | refine Zd ?_ | refine Zo ?_ | refine ok_seq ?_ | refine ok_block ?_
  refine ok_for (ι := Nat) (fun x => envL [(0, .d (.im (l.map eNum))), (3, .sl 0 0 0 l.length), (4, vi x)]) (fun x => stL [some (.row 0 3 1 (trk eNum l x [.d (.s (.int .i64 0))]))]) (fun x => x ≤ l.length) (fun x => l.length - x) 0 (Nat.zero_le _) (weak_mk rfl ⟨.refl _, .refl _, .refl _, trivial⟩ ⟨⟨rfl, _, rfl, rfl, rfl, rfl, rfl⟩, trivial⟩) (fun _ => Nat.le_refl 1) ?_
  intro k i1
  rcases hx : l[k]? with _ | x
  · have hle := none_le hx
    have ek : decide ((k : Int) < (l.length : Int)) = false := decide_eq_false (by omega)
    repeat' first
      | refine Z1 ?_ | refine Z2 ?_ | refine Z5 ?_ | refine Zd ?_ | refine fz_rows (trk_all hle) 2 rfl rfl rfl ?_ | refine Zo ?_ | refine ok_seq ?_ | refine Zq ?_ | refine ok_exit ?_ | refine ok_ret ?_ | refine x_normal_then ?_
      | refine x_exit_here ?_ | refine Zv ?_ | refine Zt ?_
    rfl
  · obtain ⟨hdr, hlt⟩ := drop_some hx
    have hwx := wL_mem (w := wNum0) (List.mem_of_getElem? hx)
    have ek : decide ((k : Int) < (l.length : Int)) = true := decide_eq_true (by omega)
    repeat' first
      | refine Z1 ?_ | refine Z2 ?_ | refine Z3 ?_ | refine Z5 ?_ | refine op_place rfl rfl hlt rfl rfl rfl rfl ?_ | refine op_putk hx rfl rfl rfl rfl rfl rfl rfl rfl ?_ | refine Zd ?_ | refine Ze ?_ | refine Zf ?_ | refine Zo ?_
      | refine ok_seq ?_ | refine ok_reg ?_ | refine Zp ?_ | refine ok_block ?_ | refine ok_skip ?_ | refine x_normal_then ?_ | refine x_normal_block ?_
    exact ⟨k + 1, hlt, by (try simp only); omega, low_mk (Nat.le_of_ble_eq_true rfl) ⟨⟨rfl, rfl⟩, ⟨rfl, rfl⟩, ⟨rfl, rfl⟩, trivial⟩ ⟨⟨rfl, blt_lt rfl, trk_low _ _ _ _ rfl⟩, trivial⟩⟩
theorem eqIntS_ok (l : List (Int)) (hw : wL (wNum0) l ≤ 1048576) : PFun X 8 [.d (.im (l.map eNum)), .d (.im (l.map eNum))] (vb true) := by
  have ht : (!true) = false := rfl
  simp only [wL] at hw
  have e0 : decide ((l.length : Int) ≠ (l.length : Int)) = false := decide_eq_false (fun h => h rfl)
  refine pfun_of Tryd.func8 rfl (by decide) Tryd.ntmps8 Tryd.results8 (by simp) rfl rfl ?_
  repeat' first
    | refine Z1 ?_ | refine Z2 ?_ | refine Z5 ?_ | refine Zd ?_ | refine Zo ?_ | refine ok_seq ?_ | refine Zq ?_ | refine ok_block ?_ | refine ok_skip ?_ | refine x_normal_then ?_
  refine ok_for (ι := Nat) (fun x => envL [(0, .d (.im (l.map eNum))), (1, .d (.im (l.map eNum))), (4, vb false), (5, vi x)]) (fun x => stL []) (fun x => x ≤ l.length) (fun x => l.length - x) 0 (Nat.zero_le _) (weak_mk rfl ⟨.refl _, .refl _, .refl _, .refl _, trivial⟩ trivial) (fun _ => Nat.le_refl 0) ?_
  intro k i1
  rcases hx : l[k]? with _ | x
  · have hle := none_le hx
    have ek : decide ((k : Int) < (l.length : Int)) = false := decide_eq_false (by omega)
    repeat' first
      | refine Z1 ?_ | refine Z2 ?_ | refine Z5 ?_ | refine Zd ?_ | refine Zo ?_ | refine ok_seq ?_ | refine Zq ?_ | refine ok_exit ?_ | refine ok_ret ?_ | refine x_normal_then ?_ | refine x_exit_here ?_ | refine Zv ?_ | refine Zt ?_
    rfl
  · obtain ⟨hdr, hlt⟩ := drop_some hx
    have hwx := wL_mem (w := wNum0) (List.mem_of_getElem? hx)
    have ek : decide ((k : Int) < (l.length : Int)) = true := decide_eq_true (by omega)
    have ee : decide (x ≠ x) = false := decide_eq_false (fun h => h rfl)
    repeat' first
      | refine Z1 ?_ | refine Z2 ?_ | refine Z5 ?_ | refine Zd ?_ | refine Zf ?_ | refine Zw ?_ | refine Zx ?_ | refine Zz (Ze ⟨rfl, rfl⟩) ?_ | refine Zo ?_ | refine ok_seq ?_ | refine ok_reg ?_ | refine ok_draw X_mixed (by decide +kernel) ?_
      | refine Zp ?_ | refine Zq ?_ | refine ok_block ?_ | refine ok_skip ?_ | refine x_normal_then ?_ | refine x_normal_block ?_
    exact ⟨k + 1, hlt, by (try simp only); omega, low_mk (Nat.zero_le _) ⟨⟨rfl, rfl⟩, ⟨rfl, rfl⟩, ⟨rfl, rfl⟩, ⟨rfl, rfl⟩, trivial⟩ trivial⟩

theorem toItemSS_ok (l : List (List Itm)) (hw : wL (wL wItm) l ≤ 1048576) : PFun X 81 [.d (.im (l.map eItms))] (.d (.im (l.map eItms))) := by
  simp only [wL] at hw
  refine pfun_of Tryd.func81 rfl (by decide) Tryd.ntmps81 Tryd.results81 (by simp) rfl rfl ?_
  repeat' first
    | refine Z1 ?_ | refine Z2 ?_ | refine Z5 ?_ | refine op_make (k := l.length) rfl rfl (by omega) rfl rfl rfl rfl rfl rfl ?_ | refine Zd ?_ | refine Zo ?_ | refine ok_seq ?_ | refine ok_block ?_
  refine ok_for (ι := Nat) (fun x => envL [(0, .d (.im (l.map eItms))), (3, .sl 0 0 0 l.length), (4, vi x)]) (fun x => stL [some (.row 0 81 1 (trk eItms l x [.d (.s (.slice none 0 0))]))]) (fun x => x ≤ l.length) (fun x => l.length - x) 0 (Nat.zero_le _) (weak_mk rfl ⟨.refl _, .refl _, .refl _, trivial⟩ ⟨⟨rfl, _, rfl, rfl, rfl, rfl, rfl⟩, trivial⟩) (fun _ => Nat.le_refl 1) ?_
  intro k i1
  rcases hx : l[k]? with _ | x
  · have hle := none_le hx
    have ek : decide ((k : Int) < (l.length : Int)) = false := decide_eq_false (by omega)
    repeat' first
      | refine Z1 ?_ | refine Z2 ?_ | refine Z5 ?_ | refine Zd ?_ | refine fz_rows (trk_all hle) 2 rfl rfl rfl ?_ | refine Zo ?_ | refine ok_seq ?_ | refine Zq ?_ | refine ok_exit ?_ | refine ok_ret ?_ | refine x_normal_then ?_
      | refine x_exit_here ?_ | refine Zv ?_ | refine Zt ?_
    rfl
  · obtain ⟨hdr, hlt⟩ := drop_some hx
    have hwx := wL_mem (w := wL wItm) (List.mem_of_getElem? hx)
    have ek : decide ((k : Int) < (l.length : Int)) = true := decide_eq_true (by omega)
    repeat' first
      | refine Z1 ?_ | refine Z2 ?_ | refine Z3 ?_ | refine Z5 ?_ | refine op_place rfl rfl hlt rfl rfl rfl rfl ?_ | refine op_putk hx rfl rfl rfl rfl rfl rfl rfl rfl ?_ | refine Zc (toItemS_ok x (by omega)) ?_ | refine Zd ?_ | refine Ze ?_
      | refine Zf ?_ | refine Zo ?_ | refine ok_seq ?_ | refine ok_reg ?_ | refine Zp ?_ | refine ok_block ?_ | refine ok_skip ?_ | refine x_normal_then ?_ | refine x_normal_block ?_
    exact ⟨k + 1, hlt, by (try simp only); omega, low_mk (Nat.le_of_ble_eq_true rfl) ⟨⟨rfl, rfl⟩, ⟨rfl, rfl⟩, ⟨rfl, rfl⟩, trivial⟩ ⟨⟨rfl, blt_lt rfl, trk_low _ _ _ _ rfl⟩, trivial⟩⟩
theorem eqItemSS_ok (l : List (List Itm)) (hw : wL (wL wItm) l ≤ 1048576) : PFun X 84 [.d (.im (l.map eItms)), .d (.im (l.map eItms))] (vb true) := by
  have ht : (!true) = false := rfl
  simp only [wL] at hw
  have e0 : decide ((l.length : Int) ≠ (l.length : Int)) = false := decide_eq_false (fun h => h rfl)
  refine pfun_of Tryd.func84 rfl (by decide) Tryd.ntmps84 Tryd.results84 (by simp) rfl rfl ?_
  repeat' first
    | refine Z1 ?_ | refine Z2 ?_ | refine Z5 ?_ | refine Zd ?_ | refine Zo ?_ | refine ok_seq ?_ | refine Zq ?_ | refine ok_block ?_ | refine ok_skip ?_ | refine x_normal_then ?_
  refine ok_for (ι := Nat) (fun x => envL [(0, .d (.im (l.map eItms))), (1, .d (.im (l.map eItms))), (4, vb false), (5, vi x)]) (fun x => stL []) (fun x => x ≤ l.length) (fun x => l.length - x) 0 (Nat.zero_le _) (weak_mk rfl ⟨.refl _, .refl _, .refl _, .refl _, trivial⟩ trivial) (fun _ => Nat.le_refl 0) ?_
  intro k i1
  rcases hx : l[k]? with _ | x
  · have hle := none_le hx
    have ek : decide ((k : Int) < (l.length : Int)) = false := decide_eq_false (by omega)
    repeat' first
      | refine Z1 ?_ | refine Z2 ?_ | refine Z5 ?_ | refine Zd ?_ | refine Zo ?_ | refine ok_seq ?_ | refine Zq ?_ | refine ok_exit ?_ | refine ok_ret ?_ | refine x_normal_then ?_ | refine x_exit_here ?_ | refine Zv ?_ | refine Zt ?_
    rfl
  · obtain ⟨hdr, hlt⟩ := drop_some hx
    have hwx := wL_mem (w := wL wItm) (List.mem_of_getElem? hx)
    have ek : decide ((k : Int) < (l.length : Int)) = true := decide_eq_true (by omega)
    repeat' first
      | refine Z1 ?_ | refine Z2 ?_ | refine Z5 ?_ | refine Zd ?_ | refine Zf ?_ | refine Zw ?_ | refine Zx ?_ | refine Zz (Zc (eqItemS_ok x (by first | omega | (simp only [wL]; omega))) ⟨rfl, rfl⟩) ?_ | refine Zz (Ze ⟨rfl, rfl⟩) ?_
      | refine Zo ?_ | refine ok_seq ?_ | refine ok_reg ?_ | refine ok_draw X_mixed (by decide +kernel) ?_ | refine Zp ?_ | refine Zq ?_ | refine ok_block ?_ | refine ok_skip ?_ | refine x_normal_then ?_ | refine x_normal_block ?_
    exact ⟨k + 1, hlt, by (try simp only); omega, low_mk (Nat.zero_le _) ⟨⟨rfl, rfl⟩, ⟨rfl, rfl⟩, ⟨rfl, rfl⟩, ⟨rfl, rfl⟩, trivial⟩ trivial⟩

theorem toSlot_ok (x : Slt) (hw : wSlt x ≤ 1048576) : PFun X 64 [.agg ((eSlt x).map .d)] (.agg ((eSlt x).map .d)) := by
  simp only [wSlt] at hw
  refine pfun_of Tryd.func64 rfl (by decide) Tryd.ntmps64 Tryd.results64 (by simp) rfl rfl ?_
  repeat' first
    | refine Z1 ?_ | refine Z2 ?_ | refine Zo ?_ | refine ok_ret ?_ | refine Zu ?_
  rfl
theorem eqSlot_ok (x : Slt) (hw : wSlt x ≤ 1048576) : PFun X 71 [.agg ((eSlt x).map .d), .agg ((eSlt x).map .d)] (vb true) := by
  simp only [wSlt] at hw
  have ht : (!true) = false := rfl
  have e0 : decide (x.name ≠ x.name) = false := decide_eq_false (fun h => h rfl)
  have e1 : decide (x.type ≠ x.type) = false := decide_eq_false (fun h => h rfl)
  refine pfun_of Tryd.func71 rfl (by decide) Tryd.ntmps71 Tryd.results71 (by simp) rfl rfl ?_
  repeat' first
    | refine Z1 ?_ | refine Z2 ?_ | refine Zo ?_ | refine ok_seq ?_ | refine Zq ?_ | refine ok_skip ?_ | refine ok_ret ?_ | refine x_normal_then ?_ | refine Zt ?_
  rfl

theorem toSlotS_ok (l : List (Slt)) (hw : wL (wSlt) l ≤ 1048576) : PFun X 37 [.d (.im (l.map eSlt))] (.d (.im (l.map eSlt))) := by
  simp only [wL] at hw
  refine pfun_of Tryd.func37 rfl (by decide) Tryd.ntmps37 Tryd.results37 (by simp) rfl rfl ?_
  repeat' first
    | refine Z1 ?_ | refine Z2 ?_ | refine Z5 ?_ | refine op_make (k := l.length) rfl rfl (by omega) rfl rfl rfl rfl rfl rfl ?_ | refine Zd ?_ | refine Zo ?_ | refine ok_seq ?_ | refine ok_block ?_
  refine ok_for (ι := Nat) (fun x => envL [(0, .d (.im (l.map eSlt))), (3, .sl 0 0 0 l.length), (4, vi x)]) (fun x => stL [some (.row 0 79 2 (trk eSlt l x [.d (.s (.string .empty)), .d (.s (.int .i64 0))]))]) (fun x => x ≤ l.length) (fun x => l.length - x) 0 (Nat.zero_le _) (weak_mk rfl ⟨.refl _, .refl _, .refl _, trivial⟩ ⟨⟨rfl, _, rfl, rfl, rfl, rfl, rfl⟩, trivial⟩) (fun _ => Nat.le_refl 1) ?_
  intro k i1
  rcases hx : l[k]? with _ | x
  · have hle := none_le hx
    have ek : decide ((k : Int) < (l.length : Int)) = false := decide_eq_false (by omega)
    repeat' first
      | refine Z1 ?_ | refine Z2 ?_ | refine Z5 ?_ | refine Zd ?_ | refine fz_rows (trk_all hle) 2 rfl rfl rfl ?_ | refine Zo ?_ | refine ok_seq ?_ | refine Zq ?_ | refine ok_exit ?_ | refine ok_ret ?_ | refine x_normal_then ?_
      | refine x_exit_here ?_ | refine Zv ?_ | refine Zt ?_
    rfl
  · obtain ⟨hdr, hlt⟩ := drop_some hx
    have hwx := wL_mem (w := wSlt) (List.mem_of_getElem? hx)
    have ek : decide ((k : Int) < (l.length : Int)) = true := decide_eq_true (by omega)
    repeat' first
      | refine Z1 ?_ | refine Z2 ?_ | refine Z3 ?_ | refine Z5 ?_ | refine op_place rfl rfl hlt rfl rfl rfl rfl ?_ | refine op_putk hx rfl rfl rfl rfl rfl rfl rfl rfl ?_ | refine Zc (toSlot_ok x (by omega)) ?_ | refine Zd ?_ | refine Ze ?_
      | refine Zf ?_ | refine Zo ?_ | refine ok_seq ?_ | refine ok_reg ?_ | refine Zp ?_ | refine ok_block ?_ | refine ok_skip ?_ | refine x_normal_then ?_ | refine x_normal_block ?_
    exact ⟨k + 1, hlt, by (try simp only); omega, low_mk (Nat.le_of_ble_eq_true rfl) ⟨⟨rfl, rfl⟩, ⟨rfl, rfl⟩, ⟨rfl, rfl⟩, trivial⟩ ⟨⟨rfl, blt_lt rfl, trk_low _ _ _ _ rfl⟩, trivial⟩⟩
theorem eqSlotS_ok (l : List (Slt)) (hw : wL (wSlt) l ≤ 1048576) : PFun X 48 [.d (.im (l.map eSlt)), .d (.im (l.map eSlt))] (vb true) := by
  have ht : (!true) = false := rfl
  simp only [wL] at hw
  have e0 : decide ((l.length : Int) ≠ (l.length : Int)) = false := decide_eq_false (fun h => h rfl)
  refine pfun_of Tryd.func48 rfl (by decide) Tryd.ntmps48 Tryd.results48 (by simp) rfl rfl ?_
  repeat' first
    | refine Z1 ?_ | refine Z2 ?_ | refine Z5 ?_ | refine Zd ?_ | refine Zo ?_ | refine ok_seq ?_ | refine Zq ?_ | refine ok_block ?_ | refine ok_skip ?_ | refine x_normal_then ?_
  refine ok_for (ι := Nat) (fun x => envL [(0, .d (.im (l.map eSlt))), (1, .d (.im (l.map eSlt))), (4, vb false), (5, vi x)]) (fun x => stL []) (fun x => x ≤ l.length) (fun x => l.length - x) 0 (Nat.zero_le _) (weak_mk rfl ⟨.refl _, .refl _, .refl _, .refl _, trivial⟩ trivial) (fun _ => Nat.le_refl 0) ?_
  intro k i1
  rcases hx : l[k]? with _ | x
  · have hle := none_le hx
    have ek : decide ((k : Int) < (l.length : Int)) = false := decide_eq_false (by omega)
    repeat' first
      | refine Z1 ?_ | refine Z2 ?_ | refine Z5 ?_ | refine Zd ?_ | refine Zo ?_ | refine ok_seq ?_ | refine Zq ?_ | refine ok_exit ?_ | refine ok_ret ?_ | refine x_normal_then ?_ | refine x_exit_here ?_ | refine Zv ?_ | refine Zt ?_
    rfl
  · obtain ⟨hdr, hlt⟩ := drop_some hx
    have hwx := wL_mem (w := wSlt) (List.mem_of_getElem? hx)
    have ek : decide ((k : Int) < (l.length : Int)) = true := decide_eq_true (by omega)
    repeat' first
      | refine Z1 ?_ | refine Z2 ?_ | refine Z5 ?_ | refine Zd ?_ | refine Zf ?_ | refine Zw ?_ | refine Zx ?_ | refine Zz (Zc (eqSlot_ok x (by omega)) ⟨rfl, rfl⟩) ?_ | refine Zz (Ze ⟨rfl, rfl⟩) ?_ | refine Zo ?_ | refine ok_seq ?_
      | refine ok_reg ?_ | refine ok_draw X_mixed (by decide +kernel) ?_ | refine Zp ?_ | refine Zq ?_ | refine ok_block ?_ | refine ok_skip ?_ | refine x_normal_then ?_ | refine x_normal_block ?_
    exact ⟨k + 1, hlt, by (try simp only); omega, low_mk (Nat.zero_le _) ⟨⟨rfl, rfl⟩, ⟨rfl, rfl⟩, ⟨rfl, rfl⟩, ⟨rfl, rfl⟩, trivial⟩ trivial⟩

theorem toStm_ok (x : Sm) (hw : wSm x ≤ 1048576) : PFun X 65 [.agg ((eSm x).map .d)] (.agg ((eSm x).map .d)) := by
  simp only [wSm, wL] at hw
  refine pfun_of Tryd.func65 rfl (by decide) Tryd.ntmps65 Tryd.results65 (by simp) rfl rfl ?_
  repeat' first
    | refine Z1 ?_ | refine Z2 ?_ | refine Z5 ?_ | refine Zc (toStringS_ok x.outs (by simp only [wL]; omega)) ?_ | refine Zc (toItemS_ok x.code (by simp only [wL]; omega)) ?_ | refine Zc (toItemSS_ok x.args (by simp only [wL]; omega)) ?_
    | refine Zo ?_ | refine ok_ret ?_ | refine Zu ?_
  rfl
theorem eqStm_ok (x : Sm) (hw : wSm x ≤ 1048576) : PFun X 72 [.agg ((eSm x).map .d), .agg ((eSm x).map .d)] (vb true) := by
  simp only [wSm, wL] at hw
  have ht : (!true) = false := rfl
  have e0 : decide (x.kind ≠ x.kind) = false := decide_eq_false (fun h => h rfl)
  have e1 : decide (x.name ≠ x.name) = false := decide_eq_false (fun h => h rfl)
  have e2 : decide (x.pos ≠ x.pos) = false := decide_eq_false (fun h => h rfl)
  refine pfun_of Tryd.func72 rfl (by decide) Tryd.ntmps72 Tryd.results72 (by simp) rfl rfl ?_
  repeat' first
    | refine Z1 ?_ | refine Z2 ?_ | refine Z5 ?_ | refine Zc (eqStringS_ok x.outs (by first | omega | (simp only [wL]; omega))) ?_ | refine Zc (eqItemS_ok x.code (by first | omega | (simp only [wL]; omega))) ?_
    | refine Zc (eqItemSS_ok x.args (by first | omega | (simp only [wL]; omega))) ?_ | refine Zo ?_ | refine ok_seq ?_ | refine Zq ?_ | refine ok_skip ?_ | refine ok_ret ?_ | refine x_normal_then ?_ | refine Zt ?_
  rfl

theorem toStmS_ok (l : List (Sm)) (hw : wL (wSm) l ≤ 1048576) : PFun X 40 [.d (.im (l.map eSm))] (.d (.im (l.map eSm))) := by
  simp only [wL] at hw
  refine pfun_of Tryd.func40 rfl (by decide) Tryd.ntmps40 Tryd.results40 (by simp) rfl rfl ?_
  repeat' first
    | refine Z1 ?_ | refine Z2 ?_ | refine Z5 ?_ | refine op_make (k := l.length) rfl rfl (by omega) rfl rfl rfl rfl rfl rfl ?_ | refine Zd ?_ | refine Zo ?_ | refine ok_seq ?_ | refine ok_block ?_
  refine ok_for (ι := Nat) (fun x => envL [(0, .d (.im (l.map eSm))), (3, .sl 0 0 0 l.length), (4, vi x)]) (fun x => stL [some (.row 0 84 6 (trk eSm l x [.d (.s (.int .i64 0)), .d (.s (.string .empty)), .d (.s (.int .i64 0)), .d (.s (.slice none 0 0)), .d (.s (.slice none 0 0)), .d (.s (.slice none 0 0))]))]) (fun x => x ≤ l.length) (fun x => l.length - x) 0 (Nat.zero_le _) (weak_mk rfl ⟨.refl _, .refl _, .refl _, trivial⟩ ⟨⟨rfl, _, rfl, rfl, rfl, rfl, rfl⟩, trivial⟩) (fun _ => Nat.le_refl 1) ?_
  intro k i1
  rcases hx : l[k]? with _ | x
  · have hle := none_le hx
    have ek : decide ((k : Int) < (l.length : Int)) = false := decide_eq_false (by omega)
    repeat' first
      | refine Z1 ?_ | refine Z2 ?_ | refine Z5 ?_ | refine Zd ?_ | refine fz_rows (trk_all hle) 2 rfl rfl rfl ?_ | refine Zo ?_ | refine ok_seq ?_ | refine Zq ?_ | refine ok_exit ?_ | refine ok_ret ?_ | refine x_normal_then ?_
      | refine x_exit_here ?_ | refine Zv ?_ | refine Zt ?_
    rfl
  · obtain ⟨hdr, hlt⟩ := drop_some hx
    have hwx := wL_mem (w := wSm) (List.mem_of_getElem? hx)
    have ek : decide ((k : Int) < (l.length : Int)) = true := decide_eq_true (by omega)
    repeat' first
      | refine Z1 ?_ | refine Z2 ?_ | refine Z3 ?_ | refine Z5 ?_ | refine op_place rfl rfl hlt rfl rfl rfl rfl ?_ | refine op_putk hx rfl rfl rfl rfl rfl rfl rfl rfl ?_ | refine Zc (toStm_ok x (by omega)) ?_ | refine Zd ?_ | refine Ze ?_
      | refine Zf ?_ | refine Zo ?_ | refine ok_seq ?_ | refine ok_reg ?_ | refine Zp ?_ | refine ok_block ?_ | refine ok_skip ?_ | refine x_normal_then ?_ | refine x_normal_block ?_
    exact ⟨k + 1, hlt, by (try simp only); omega, low_mk (Nat.le_of_ble_eq_true rfl) ⟨⟨rfl, rfl⟩, ⟨rfl, rfl⟩, ⟨rfl, rfl⟩, trivial⟩ ⟨⟨rfl, blt_lt rfl, trk_low _ _ _ _ rfl⟩, trivial⟩⟩
theorem eqStmS_ok (l : List (Sm)) (hw : wL (wSm) l ≤ 1048576) : PFun X 50 [.d (.im (l.map eSm)), .d (.im (l.map eSm))] (vb true) := by
  have ht : (!true) = false := rfl
  simp only [wL] at hw
  have e0 : decide ((l.length : Int) ≠ (l.length : Int)) = false := decide_eq_false (fun h => h rfl)
  refine pfun_of Tryd.func50 rfl (by decide) Tryd.ntmps50 Tryd.results50 (by simp) rfl rfl ?_
  repeat' first
    | refine Z1 ?_ | refine Z2 ?_ | refine Z5 ?_ | refine Zd ?_ | refine Zo ?_ | refine ok_seq ?_ | refine Zq ?_ | refine ok_block ?_ | refine ok_skip ?_ | refine x_normal_then ?_
  refine ok_for (ι := Nat) (fun x => envL [(0, .d (.im (l.map eSm))), (1, .d (.im (l.map eSm))), (4, vb false), (5, vi x)]) (fun x => stL []) (fun x => x ≤ l.length) (fun x => l.length - x) 0 (Nat.zero_le _) (weak_mk rfl ⟨.refl _, .refl _, .refl _, .refl _, trivial⟩ trivial) (fun _ => Nat.le_refl 0) ?_
  intro k i1
  rcases hx : l[k]? with _ | x
  · have hle := none_le hx
    have ek : decide ((k : Int) < (l.length : Int)) = false := decide_eq_false (by omega)
    repeat' first
      | refine Z1 ?_ | refine Z2 ?_ | refine Z5 ?_ | refine Zd ?_ | refine Zo ?_ | refine ok_seq ?_ | refine Zq ?_ | refine ok_exit ?_ | refine ok_ret ?_ | refine x_normal_then ?_ | refine x_exit_here ?_ | refine Zv ?_ | refine Zt ?_
    rfl
  · obtain ⟨hdr, hlt⟩ := drop_some hx
    have hwx := wL_mem (w := wSm) (List.mem_of_getElem? hx)
    have ek : decide ((k : Int) < (l.length : Int)) = true := decide_eq_true (by omega)
    repeat' first
      | refine Z1 ?_ | refine Z2 ?_ | refine Z5 ?_ | refine Zd ?_ | refine Zf ?_ | refine Zw ?_ | refine Zx ?_ | refine Zz (Zc (eqStm_ok x (by omega)) ⟨rfl, rfl⟩) ?_ | refine Zz (Ze ⟨rfl, rfl⟩) ?_ | refine Zo ?_ | refine ok_seq ?_
      | refine ok_reg ?_ | refine ok_draw X_mixed (by decide +kernel) ?_ | refine Zp ?_ | refine Zq ?_ | refine ok_block ?_ | refine ok_skip ?_ | refine x_normal_then ?_ | refine x_normal_block ?_
    exact ⟨k + 1, hlt, by (try simp only); omega, low_mk (Nat.zero_le _) ⟨⟨rfl, rfl⟩, ⟨rfl, rfl⟩, ⟨rfl, rfl⟩, ⟨rfl, rfl⟩, trivial⟩ trivial⟩

theorem toClass_ok (x : Cls) (hw : wCls x ≤ 1048576) : PFun X 23 [.agg ((eCls x).map .d)] (.agg ((eCls x).map .d)) := by
  simp only [wCls, wL] at hw
  refine pfun_of Tryd.func23 rfl (by decide) Tryd.ntmps23 Tryd.results23 (by simp) rfl rfl ?_
  repeat' first
    | refine Z1 ?_ | refine Z2 ?_ | refine Z5 ?_ | refine Zc (toSlotS_ok x.ins (by simp only [wL]; omega)) ?_ | refine Zc (toSlotS_ok x.outs (by simp only [wL]; omega)) ?_ | refine Zc (toStringS_ok x.locs (by simp only [wL]; omega)) ?_
    | refine Zc (toIntS_ok x.mems (by simp only [wL]; omega)) ?_ | refine Zc (toIntS_ok x.insts (by simp only [wL]; omega)) ?_ | refine Zc (toStmS_ok x.body (by simp only [wL]; omega)) ?_ | refine Zo ?_ | refine ok_ret ?_ | refine Zu ?_
  rfl
theorem eqClass_ok (x : Cls) (hw : wCls x ≤ 1048576) : PFun X 25 [.agg ((eCls x).map .d), .agg ((eCls x).map .d)] (vb true) := by
  simp only [wCls, wL] at hw
  have ht : (!true) = false := rfl
  have e0 : decide (x.name ≠ x.name) = false := decide_eq_false (fun h => h rfl)
  refine pfun_of Tryd.func25 rfl (by decide) Tryd.ntmps25 Tryd.results25 (by simp) rfl rfl ?_
  repeat' first
    | refine Z1 ?_ | refine Z2 ?_ | refine Z5 ?_ | refine Zc (eqSlotS_ok x.ins (by first | omega | (simp only [wL]; omega))) ?_ | refine Zc (eqSlotS_ok x.outs (by first | omega | (simp only [wL]; omega))) ?_
    | refine Zc (eqStringS_ok x.locs (by first | omega | (simp only [wL]; omega))) ?_ | refine Zc (eqIntS_ok x.mems (by first | omega | (simp only [wL]; omega))) ?_
    | refine Zc (eqIntS_ok x.insts (by first | omega | (simp only [wL]; omega))) ?_ | refine Zc (eqStmS_ok x.body (by first | omega | (simp only [wL]; omega))) ?_ | refine Zo ?_ | refine ok_seq ?_ | refine Zq ?_ | refine ok_skip ?_
    | refine ok_ret ?_ | refine x_normal_then ?_ | refine Zt ?_
  rfl

theorem toClassS_ok (l : List (Cls)) (hw : wL (wCls) l ≤ 1048576) : PFun X 16 [.d (.im (l.map eCls))] (.d (.im (l.map eCls))) := by
  simp only [wL] at hw
  refine pfun_of Tryd.func16 rfl (by decide) Tryd.ntmps16 Tryd.results16 (by simp) rfl rfl ?_
  repeat' first
    | refine Z1 ?_ | refine Z2 ?_ | refine Z5 ?_ | refine op_make (k := l.length) rfl rfl (by omega) rfl rfl rfl rfl rfl rfl ?_ | refine Zd ?_ | refine Zo ?_ | refine ok_seq ?_ | refine ok_block ?_
  refine ok_for (ι := Nat) (fun x => envL [(0, .d (.im (l.map eCls))), (3, .sl 0 0 0 l.length), (4, vi x)]) (fun x => stL [some (.row 0 53 7 (trk eCls l x [.d (.s (.string .empty)), .d (.s (.slice none 0 0)), .d (.s (.slice none 0 0)), .d (.s (.slice none 0 0)), .d (.s (.slice none 0 0)), .d (.s (.slice none 0 0)), .d (.s (.slice none 0 0))]))]) (fun x => x ≤ l.length) (fun x => l.length - x) 0 (Nat.zero_le _) (weak_mk rfl ⟨.refl _, .refl _, .refl _, trivial⟩ ⟨⟨rfl, _, rfl, rfl, rfl, rfl, rfl⟩, trivial⟩) (fun _ => Nat.le_refl 1) ?_
  intro k i1
  rcases hx : l[k]? with _ | x
  · have hle := none_le hx
    have ek : decide ((k : Int) < (l.length : Int)) = false := decide_eq_false (by omega)
    repeat' first
      | refine Z1 ?_ | refine Z2 ?_ | refine Z5 ?_ | refine Zd ?_ | refine fz_rows (trk_all hle) 2 rfl rfl rfl ?_ | refine Zo ?_ | refine ok_seq ?_ | refine Zq ?_ | refine ok_exit ?_ | refine ok_ret ?_ | refine x_normal_then ?_
      | refine x_exit_here ?_ | refine Zv ?_ | refine Zt ?_
    rfl
  · obtain ⟨hdr, hlt⟩ := drop_some hx
    have hwx := wL_mem (w := wCls) (List.mem_of_getElem? hx)
    have ek : decide ((k : Int) < (l.length : Int)) = true := decide_eq_true (by omega)
    repeat' first
      | refine Z1 ?_ | refine Z2 ?_ | refine Z3 ?_ | refine Z5 ?_ | refine op_place rfl rfl hlt rfl rfl rfl rfl ?_ | refine op_putk hx rfl rfl rfl rfl rfl rfl rfl rfl ?_ | refine Zc (toClass_ok x (by omega)) ?_ | refine Zd ?_ | refine Ze ?_
      | refine Zf ?_ | refine Zo ?_ | refine ok_seq ?_ | refine ok_reg ?_ | refine Zp ?_ | refine ok_block ?_ | refine ok_skip ?_ | refine x_normal_then ?_ | refine x_normal_block ?_
    exact ⟨k + 1, hlt, by (try simp only); omega, low_mk (Nat.le_of_ble_eq_true rfl) ⟨⟨rfl, rfl⟩, ⟨rfl, rfl⟩, ⟨rfl, rfl⟩, trivial⟩ ⟨⟨rfl, blt_lt rfl, trk_low _ _ _ _ rfl⟩, trivial⟩⟩
theorem eqClassS_ok (l : List (Cls)) (hw : wL (wCls) l ≤ 1048576) : PFun X 19 [.d (.im (l.map eCls)), .d (.im (l.map eCls))] (vb true) := by
  have ht : (!true) = false := rfl
  simp only [wL] at hw
  have e0 : decide ((l.length : Int) ≠ (l.length : Int)) = false := decide_eq_false (fun h => h rfl)
  refine pfun_of Tryd.func19 rfl (by decide) Tryd.ntmps19 Tryd.results19 (by simp) rfl rfl ?_
  repeat' first
    | refine Z1 ?_ | refine Z2 ?_ | refine Z5 ?_ | refine Zd ?_ | refine Zo ?_ | refine ok_seq ?_ | refine Zq ?_ | refine ok_block ?_ | refine ok_skip ?_ | refine x_normal_then ?_
  refine ok_for (ι := Nat) (fun x => envL [(0, .d (.im (l.map eCls))), (1, .d (.im (l.map eCls))), (4, vb false), (5, vi x)]) (fun x => stL []) (fun x => x ≤ l.length) (fun x => l.length - x) 0 (Nat.zero_le _) (weak_mk rfl ⟨.refl _, .refl _, .refl _, .refl _, trivial⟩ trivial) (fun _ => Nat.le_refl 0) ?_
  intro k i1
  rcases hx : l[k]? with _ | x
  · have hle := none_le hx
    have ek : decide ((k : Int) < (l.length : Int)) = false := decide_eq_false (by omega)
    repeat' first
      | refine Z1 ?_ | refine Z2 ?_ | refine Z5 ?_ | refine Zd ?_ | refine Zo ?_ | refine ok_seq ?_ | refine Zq ?_ | refine ok_exit ?_ | refine ok_ret ?_ | refine x_normal_then ?_ | refine x_exit_here ?_ | refine Zv ?_ | refine Zt ?_
    rfl
  · obtain ⟨hdr, hlt⟩ := drop_some hx
    have hwx := wL_mem (w := wCls) (List.mem_of_getElem? hx)
    have ek : decide ((k : Int) < (l.length : Int)) = true := decide_eq_true (by omega)
    repeat' first
      | refine Z1 ?_ | refine Z2 ?_ | refine Z5 ?_ | refine Zd ?_ | refine Zf ?_ | refine Zw ?_ | refine Zx ?_ | refine Zz (Zc (eqClass_ok x (by omega)) ⟨rfl, rfl⟩) ?_ | refine Zz (Ze ⟨rfl, rfl⟩) ?_ | refine Zo ?_ | refine ok_seq ?_
      | refine ok_reg ?_ | refine ok_draw X_mixed (by decide +kernel) ?_ | refine Zp ?_ | refine Zq ?_ | refine ok_block ?_ | refine ok_skip ?_ | refine x_normal_then ?_ | refine x_normal_block ?_
    exact ⟨k + 1, hlt, by (try simp only); omega, low_mk (Nat.zero_le _) ⟨⟨rfl, rfl⟩, ⟨rfl, rfl⟩, ⟨rfl, rfl⟩, ⟨rfl, rfl⟩, trivial⟩ trivial⟩

theorem toMachine_ok (l : List Cls) (hw : wL wCls l ≤ 1048576) : PFun X 6 [.agg [.d (.im (l.map eCls))]] (.agg [.d (.im (l.map eCls))]) := by
  refine pfun_of Tryd.func6 rfl (by decide) Tryd.ntmps6 Tryd.results6 (by simp) rfl rfl ?_
  repeat' first
    | refine Z1 ?_ | refine Z2 ?_ | refine Z5 ?_ | refine Zc (toClassS_ok l hw) ?_ | refine Zo ?_ | refine ok_ret ?_ | refine Zu ?_
  rfl
theorem eqMachine_ok (l : List Cls) (hw : wL wCls l ≤ 1048576) : PFun X 9 [.agg [.d (.im (l.map eCls))], .agg [.d (.im (l.map eCls))]] (vb true) := by
  have ht : (!true) = false := rfl
  refine pfun_of Tryd.func9 rfl (by decide) Tryd.ntmps9 Tryd.results9 (by simp) rfl rfl ?_
  repeat' first
    | refine Z1 ?_ | refine Z2 ?_ | refine Z5 ?_ | refine Zc (eqClassS_ok l hw) ?_ | refine Zo ?_ | refine ok_seq ?_ | refine Zq ?_ | refine ok_skip ?_ | refine ok_ret ?_ | refine x_normal_then ?_ | refine Zt ?_
  rfl

end Go.Pm
/- Machines of the specification: cells and bounds. -/
set_option linter.unusedVariables false
set_option linter.unusedSimpArgs false
namespace Go.Pm
attribute [local irreducible] AR Ok inBlock andThen endQ aoper
set_option maxHeartbeats 4000000
open Go.Proofs
def bdC (Z : List Int) : Prop := ∀ z ∈ Z, 0 ≤ z ∧ z ≤ 20001
def instSum (Z : List Int) : Int → List Int → Int
  | n, [] => n
  | n, g :: l => instSum Z (n + (Z[g.toNat]?).getD 0) l
def cellsGo : List Int → List Cls → List Int
  | Z, [] => Z
  | Z, c :: r => cellsGo (Z ++ [min (instSum Z c.mems.length c.insts) 20001]) r
def cellsS (cs : List Cls) : List Int := cellsGo [] cs
theorem bdC_push {Z : List Int} {v : Int} (h : bdC Z) (h0 : 0 ≤ v) (h1 : v ≤ 20001) : bdC (Z ++ [v]) := by
  intro z hz
  rcases List.mem_append.1 hz with h' | h'
  · exact h z h'
  · simp only [List.mem_singleton] at h'; subst h'; exact ⟨h0, h1⟩
theorem scells_ok (cs : List Cls) (hw : wL wCls cs ≤ 1048576) (hg : ∀ (k : Nat) (c : Cls), cs[k]? = some c → ∀ g ∈ c.insts, 0 ≤ g ∧ g < (k : Int)) : PFun X 35 [.agg [.d (.im (cs.map eCls))]] (.d (.im ((cellsS cs).map eNum))) := by
  have hcl : cs.length ≤ 1048576 := by simp only [wL] at hw; omega
  refine pfun_of Tryd.func35 rfl (by decide) Tryd.ntmps35 Tryd.results35 (by simp) rfl rfl ?_
  repeat' first
    | refine Z1 ?_ | refine Z2 ?_ | refine Z5 ?_ | refine op_bslice rfl rfl rfl rfl rfl rfl rfl ?_ | refine Zd ?_ | refine Zo ?_ | refine ok_seq ?_ | refine ok_block ?_
  refine ok_forR (ι := Nat × List Int) (fun x_ => envL [(1, .ref 0 0), (3, .sl 1 2 0 x_.2.length), (11, .d (.im (cs.map eCls))), (12, vi cs.length), (13, vi x_.1)]) (fun x_ => stL [some (.var [.d (.im (cs.map eCls))]), some (.row 2 3 1 (im2 eNum x_.2)), none]) (fun x_ => x_.1 ≤ cs.length ∧ x_.2.length = x_.1 ∧ bdC x_.2 ∧ cellsGo x_.2 (cs.drop x_.1) = cellsS cs) (fun x_ => cs.length - x_.1) (0, []) (⟨Nat.zero_le _, rfl, fun x hx => by simp at hx, rfl⟩) Turn.refl (lowR_mk [(2, 1)] rfl rfl rfl ⟨⟨rfl, rfl⟩, ⟨rfl, rfl⟩, ⟨rfl, rfl⟩, ⟨rfl, rfl⟩, ⟨rfl, rfl⟩, trivial⟩ ⟨⟨rfl, rfl⟩, ⟨renO_row rfl (by first | exact im2_ren _ _ _ | rfl), blt_lt rfl, im2_low _ _ _⟩, trivial⟩) ?_
  rintro ⟨k, Z⟩ ⟨i1, i2, i3, i5⟩
  simp only at i1 i2 i3 i5
  rcases hx : cs[k]? with _ | c
  · have hle := none_le hx
    have ek : decide ((k : Int) < (cs.length : Int)) = false := decide_eq_false (by omega)
    rw [drop_none hx] at i5
    have i5 : Z = cellsS cs := i5
    subst i5
    repeat' first
      | refine Z1 ?_ | refine Z2 ?_ | refine fz_rows (e := eNum) (l := cellsS cs) rfl 2 rfl rfl rfl ?_ | refine Zo ?_ | refine ok_seq ?_ | refine Zq ?_ | refine ok_exit ?_ | refine ok_ret ?_ | refine x_normal_then ?_ | refine x_exit_here ?_
      | refine Zv ?_ | refine Zt ?_
    rfl
  obtain ⟨hd, hlt⟩ := drop_some hx
  have ek : decide ((k : Int) < (cs.length : Int)) = true := decide_eq_true (by omega)
  have hwc : wCls c ≤ 1048576 := by have := wL_mem (w := wCls) (List.mem_of_getElem? hx); simp only [wL] at hw; omega
  have hl := cls_le hwc
  rw [hd] at i5
  simp only [cellsGo] at i5
  repeat' first
    | refine Z1 ?_ | refine Z2 ?_ | refine Z5 ?_ | refine Zd ?_ | refine Ze ?_ | refine Zo ?_ | refine ok_seq ?_ | refine Zp ?_ | refine ok_block ?_ | refine ok_skip ?_ | refine x_normal_then ?_
  refine ok_for (ι := Nat × Int) (fun x_ => envL [(1, .ref 0 0), (3, .sl 1 2 0 Z.length), (11, .d (.im (cs.map eCls))), (12, vi cs.length), (13, vi k), (6, vi x_.2), (21, .d (.im (c.insts.map eNum))), (22, vi c.insts.length), (23, vi x_.1)]) (fun x_ => stL [some (.var [.d (.im (cs.map eCls))]), some (.row 2 3 1 (im2 eNum Z)), none, none]) (fun x_ => x_.1 ≤ c.insts.length ∧ 0 ≤ x_.2 ∧ x_.2 ≤ 1048576 + 20001 * (x_.1 : Int) ∧ instSum Z x_.2 (c.insts.drop x_.1) = instSum Z c.mems.length c.insts) (fun x_ => c.insts.length - x_.1) (0, (c.mems.length : Int)) (⟨Nat.zero_le _, by simp only; omega, by simp only; omega, rfl⟩) (weak_mk rfl ⟨.refl _, .refl _, .refl _, .refl _, .refl _, .refl _, .refl _, .refl _, .refl _, trivial⟩ ⟨⟨rfl, _, rfl, rfl, fun _ _ _ => .refl _⟩, ⟨rfl, _, rfl, rfl, rfl, rfl, rfl⟩, trivial⟩) (fun _ => Nat.le_refl 4) ?_
  rintro ⟨m, n⟩ ⟨j1, j2, j3, j4⟩
  simp only at j1 j2 j3 j4
  rcases hy : c.insts[m]? with _ | g
  · have hle := none_le hy
    have em : decide ((m : Int) < (c.insts.length : Int)) = false := decide_eq_false (by omega)
    rw [drop_none hy] at j4
    have j4 : n = instSum Z c.mems.length c.insts := j4
    rw [← j4] at i5
    by_cases hb : 20000 < n
    · have eb : decide (20000 < n) = true := decide_eq_true hb
      rw [show min n 20001 = 20001 by omega] at i5
      repeat' first
        | refine Z1 ?_ | refine Z2 ?_ | refine Z3 ?_ | refine Z4 ?_ | refine Z5 ?_ | refine Yl (e := eNum) (l := Z) [(20001 : Int)] ?_ | refine Zf ?_ | refine Zo ?_ | refine ok_seq ?_ | refine ok_reg ?_ | refine Zp ?_ | refine Zq ?_
        | refine ok_exit ?_ | refine x_normal_then ?_ | refine x_exit_here ?_ | refine Zv ?_ | refine x_normal_block ?_
      exact ⟨(k + 1, Z ++ [20001]), ⟨hlt, by simp [i2], bdC_push i3 (by omega) (by omega), i5⟩, by (try simp only); omega, lowR_mk [(2, 5)] rfl rfl rfl ⟨⟨rfl, rfl⟩, ⟨rfl, rfl⟩, ⟨rfl, rfl⟩, ⟨rfl, rfl⟩, ⟨rfl, rfl⟩, trivial⟩ ⟨⟨rfl, rfl⟩, ⟨renO_row rfl (by first | exact im2_ren _ _ _ | rfl), blt_lt rfl, im2_low _ _ _⟩, trivial⟩⟩
    · have eb : decide (20000 < n) = false := decide_eq_false hb
      rw [show min n 20001 = n by omega] at i5
      repeat' first
        | refine Z1 ?_ | refine Z2 ?_ | refine Z3 ?_ | refine Z4 ?_ | refine Z5 ?_ | refine Yl (e := eNum) (l := Z) [n] ?_ | refine Zf ?_ | refine Zo ?_ | refine ok_seq ?_ | refine ok_reg ?_ | refine Zq ?_ | refine ok_exit ?_
        | refine ok_skip ?_ | refine x_normal_then ?_ | refine x_exit_here ?_ | refine Zv ?_ | refine x_normal_block ?_
      exact ⟨(k + 1, Z ++ [n]), ⟨hlt, by simp [i2], bdC_push i3 (by omega) (by omega), i5⟩, by (try simp only); omega, lowR_mk [(2, 5)] rfl rfl rfl ⟨⟨rfl, rfl⟩, ⟨rfl, rfl⟩, ⟨rfl, rfl⟩, ⟨rfl, rfl⟩, ⟨rfl, rfl⟩, trivial⟩ ⟨⟨rfl, rfl⟩, ⟨renO_row rfl (by first | exact im2_ren _ _ _ | rfl), blt_lt rfl, im2_low _ _ _⟩, trivial⟩⟩
  obtain ⟨hd2, hlt2⟩ := drop_some hy
  have em : decide ((m : Int) < (c.insts.length : Int)) = true := decide_eq_true (by omega)
  obtain ⟨g0, g1⟩ := hg k c hx g (List.mem_of_getElem? hy)
  obtain ⟨gn, hgn⟩ : ∃ gn : Nat, g = (gn : Int) := ⟨g.toNat, by omega⟩
  have hgl : gn < Z.length := by omega
  have hz : Z[gn]? = some Z[gn] := List.getElem?_eq_getElem hgl
  have hzb := i3 _ (List.mem_of_getElem? hz)
  have hr : (im2 eNum Z)[gn]? = some [vi Z[gn]] := im2_get hz
  rw [hd2] at j4
  simp only [instSum] at j4
  rw [hgn, Int.toNat_natCast, hz] at j4
  simp only [Option.getD_some] at j4
  generalize Z[gn] = z at hz hzb hr j4
  repeat' first
    | refine Z1 ?_ | refine Z2 ?_ | refine Z3 ?_ | refine Z5 ?_ | refine Yf (n := g) gn hgn hgl ?_ | refine Ye hr ?_ | refine Ze ?_ | refine Zf ?_ | refine Zo ?_ | refine ok_seq ?_ | refine ok_reg ?_ | refine Zp ?_ | refine ok_block ?_
    | refine ok_skip ?_ | refine x_normal_then ?_ | refine x_normal_block ?_
  exact ⟨(m + 1, n + z), ⟨hlt2, by simp only; omega, by simp only; omega, j4⟩, by (try simp only); omega, low_mk (Nat.le_of_ble_eq_true rfl) ⟨⟨rfl, rfl⟩, ⟨rfl, rfl⟩, ⟨rfl, rfl⟩, ⟨rfl, rfl⟩, ⟨rfl, rfl⟩, ⟨rfl, rfl⟩, ⟨rfl, rfl⟩, ⟨rfl, rfl⟩, ⟨rfl, rfl⟩, trivial⟩ ⟨⟨rfl, rfl⟩, ⟨rfl, blt_lt rfl, im2_low _ _ _⟩, trivial⟩⟩
end Go.Pm
/- Forests: what holds of the statements holds of the forest; its size. -/
set_option linter.unusedVariables false
set_option linter.unusedSimpArgs false
namespace Go.Pm
def goodF (B I : List Int) : List Fr → Prop
  | [] => True
  | f :: st => (goodS B I f.s ∧ goodL B I f.yes ∧ goodL B I f.no) ∧ goodF B I st
def frN : List Fr → Nat
  | [] => 0
  | f :: st => 1 + brsN f.yes + brsN f.no + frN st
theorem goodL_app {B I : List Int} : ∀ {l m : List Br}, goodL B I l → goodL B I m → goodL B I (l ++ m)
  | [], _, _, h => h
  | b :: l, m, h, h' => by simp only [goodL, List.cons_append] at h ⊢; exact ⟨h.1, goodL_app h.2 h'⟩
theorem brsN_app : ∀ l m : List Br, brsN (l ++ m) = brsN l + brsN m
  | [], m => by simp [brsN]
  | b :: l, m => by simp only [List.cons_append, brsN, brsN_app l m]; omega
theorem putF_good {B I : List Int} {b : Br} (hb : goodB B I b) : ∀ {st : List Fr} {R : List Br}, goodF B I st → goodL B I R → goodF B I (putF b st R).1 ∧ goodL B I (putF b st R).2
  | [], R, hs, hr => ⟨trivial, goodL_app hr ⟨hb, trivial⟩⟩
  | f :: st, R, hs, hr => by
    simp only [putF, goodF] at hs ⊢
    obtain ⟨⟨h1, h2, h3⟩, h4⟩ := hs
    refine ⟨⟨?_, h4⟩, hr⟩
    split
    · exact ⟨h1, h2, goodL_app h3 ⟨hb, trivial⟩⟩
    · exact ⟨h1, goodL_app h2 ⟨hb, trivial⟩, h3⟩
theorem putF_n (b : Br) : ∀ (st : List Fr) (R : List Br), frN (putF b st R).1 + brsN (putF b st R).2 = frN st + brsN R + brN b
  | [], R => by simp only [putF, frN, brsN_app, brsN]; omega
  | f :: st, R => by
    simp only [putF, frN]
    split <;> simp only [brsN_app, brsN] <;> omega
theorem growGo_good {B I : List Int} : ∀ (l : List Sm) (st : List Fr) (R R' : List Br), (∀ s ∈ l, goodS B I s) → goodF B I st → goodL B I R → growGo l st R = some R' → goodL B I R' ∧ brsN R' ≤ l.length + frN st + brsN R
  | [], [], R, R', _, _, h, e => by simp only [growGo, Option.some.injEq] at e; subst e; exact ⟨h, by omega⟩
  | [], _ :: _, R, R', _, _, _, e => by simp [growGo] at e
  | s :: l, st, R, R', hl, hs, hr, e => by
    have hl' : ∀ s ∈ l, goodS B I s := fun u hu => hl u (List.mem_cons_of_mem _ hu)
    have hs0 := hl s List.mem_cons_self
    simp only [growGo] at e
    split at e
    · have := growGo_good l (⟨s, false, [], []⟩ :: st) R R' hl' ⟨⟨hs0, trivial, trivial⟩, hs⟩ hr e
      refine ⟨this.1, ?_⟩
      have h2 := this.2
      simp only [frN, brsN, List.length_cons] at h2 ⊢
      omega
    · split at e
      · cases st with
        | nil => cases e
        | cons f st' =>
          dsimp only at e
          split at e
          · cases e
          · have := growGo_good l ({ f with els := true } :: st') R R' hl' (by simp only [goodF] at hs ⊢; exact hs) hr e
            refine ⟨this.1, ?_⟩
            have h2 := this.2
            simp only [frN, List.length_cons] at h2 ⊢
            omega
      · split at e
        · cases st with
          | nil => cases e
          | cons f st' =>
            dsimp only at e
            split at e
            · simp only [goodF] at hs
              have hb : goodB B I (.nd f.s f.yes f.no) := by simp only [goodB]; exact hs.1
              obtain ⟨g1, g2⟩ := putF_good hb hs.2 hr
              have hn := putF_n (.nd f.s f.yes f.no) st' R
              have := growGo_good l _ _ R' hl' g1 g2 e
              refine ⟨this.1, ?_⟩
              have h2 := this.2
              simp only [brN] at hn
              simp only [frN, List.length_cons] at h2 ⊢
              omega
            · cases e
        · have hb : goodB B I (.nd s [] []) := by simp only [goodB, goodL]; exact ⟨hs0, trivial, trivial⟩
          obtain ⟨g1, g2⟩ := putF_good hb hs hr
          have hn := putF_n (.nd s [] []) st R
          have := growGo_good l _ _ R' hl' g1 g2 e
          refine ⟨this.1, ?_⟩
          have h2 := this.2
          simp only [brN, brsN] at hn
          simp only [List.length_cons] at h2 ⊢
          omega
theorem grow_good {B I : List Int} {l : List Sm} {R : List Br} (hl : ∀ s ∈ l, goodS B I s) (e : growI l = some R) : goodL B I R ∧ brsN R ≤ l.length := by
  have := growGo_good l [] [] R hl trivial trivial e
  simpa [frN, brsN] using this
/-- cost, called where the objects lie as measured has them. -/
def coP (j : Nat) : Nat := match j with | 0 => 4 | 1 => 6 | 2 => 7 | 3 => 5 | 4 => 1 | 5 => 2 | 6 => 8 | 7 => 16 | j + 8 => j + 17
theorem coP_inj : ∀ i, i < 8 → ∀ j, j < 8 → coP i = coP j → i = j := by decide
theorem coP_lt : ∀ i, i < 8 → coP i < 17 := by decide
theorem cost_at {B : List Int} {z : Nat} {c : Cls} (hB : bdB B) {R : List Br} (hn : brsN R ≤ 1048576) (hg : goodL B c.insts R) {σ : St} (hnx : Nat.ble 17 σ.next = true) (h1 : σ.obj 1 = some (.var [.sl 4 6 0 z, .sl 5 7 0 B.length])) (h2 : σ.obj 2 = some (.var [.ref 1 0])) (h5 : σ.obj 5 = some (.row 7 3 1 (im2 eNum B))) (h8 : σ.obj 8 = some (.var ((eCls c).map .d)))
    (h16 : σ.obj 16 = some (.var [.fn 47 [.ref 2 0, .ref 8 0, .ref 16 0]])) : AFun X 47 [.d (.im (R.map eBrP)), .ref 2 0, .ref 8 0, .ref 16 0] σ fun E σ2 => E = .ret (vi (costL B c.insts R)) ∧ σ2 = σ := by
  have hnx := Nat.le_of_ble_eq_true hnx
  refine AFun.ro (O := coO B z c) (cost_s B z c hB (brsN R) R rfl hn hg) (fun j o ho => (coO_at ho).2) rfl rfl coP (fun i j _ _ hi hj e => coP_inj i (coO_at hi).1 j (coO_at hj).1 e) (fun j hj => by have := coP_lt j hj; omega) (fun j o ho => ?_)
  have h8' := (coO_at ho).1
  unfold coO at ho
  match j, ho with
  | 0, h => cases h
  | 1, h => cases h
  | 2, h => cases h
  | 3, h => cases h; exact h5.trans (renO_row rfl (im2_ren _ _ _))
  | 4, h => cases h; exact h1
  | 5, h => cases h; exact h2
  | 6, h => cases h; exact h8
  | 7, h => cases h; exact h16
  | j + 8, h => omega
theorem app4 {X : Cfg} {Q : Exit → Env → St → Prop} {K : AV → St → Prop} {env : Env} {σ : St} {α : Type} {e : α → List D} {l : List α} {y : α} {i h k v t tx el sz : Nat} {ti te tix : TI} {s x : Operand} {ars : Array Operand} {ts : Array TypeId} (ho : σ.obj i = some (.row h el sz (im2 e l))) (hk : σ.obj k = some (.row v el sz [(e y).map .d])) (hf : ∀ z, (e z).length = sz)
    (hK : K (.sl i σ.next 0 (l ++ [y]).length) (bumpSet σ i (.row σ.next el sz (im2 e (l ++ [y])))))
    (h1 : ars.toList = [s, x] := by exact rfl) (h2 : ts.toList = [t, tx] := by exact rfl) (hs : aev X env s = .sl i h 0 l.length := by exact rfl) (hx : aev X env x = .sl k v 0 1 := by exact rfl) (ht : X.T t = some ti := by exact rfl) (hkd : ti.kind = .slice el := by exact rfl) (hte : X.T el = some te := by exact rfl) (hsz : te.size = sz := by exact rfl) (hp : Nat.blt 0 sz = true := by exact rfl)
    (hpb : Nat.blt 0 te.bytes = true := by exact rfl) (htx : X.T tx = some tix := by exact rfl) (hkx : tix.kind = .slice el := by exact rfl) (hbb : Nat.ble te.bytes 1024 = true := by exact rfl) (hb : l.length ≤ 2097152 := by omega) : aoper X (.call ⟨.builtin .append, ars, ts⟩) env σ Q K :=
  app3 ho hk hf (by rw [List.length_append] at hK; exact hK) h1 h2 hs hx ht hkd hte hsz hp hpb htx hkx hbb hb
end Go.Pm
/- Machines of the specification: bounds. -/
set_option linter.unusedVariables false
set_option linter.unusedSimpArgs false
namespace Go.Pm
attribute [local irreducible] AR Ok inBlock andThen endQ aoper
set_option maxHeartbeats 4000000
open Go.Proofs
def bdD (B : List Int) : Prop := ∀ b ∈ B, 0 ≤ b ∧ b ≤ 400001
theorem callC_nn {B I : List Int} (hB : bdD B) (p : Int) : 0 ≤ callC B I p := by
  unfold callC
  cases hq : B[((I[p.toNat]?).getD 0).toNat]? with
  | none => simp
  | some b => exact (hB b (List.mem_of_getElem? hq)).1
mutual
theorem costB_nn {B I : List Int} (hB : bdD B) : ∀ b : Br, 0 ≤ costB B I b
  | .nd s y n => by
    have h1 := costL_nn (I := I) hB y
    have h2 := costL_nn (I := I) hB n
    have h3 := callC_nn (I := I) hB s.pos
    simp only [costB]
    split
    · omega
    · split <;> omega
theorem costL_nn {B I : List Int} (hB : bdD B) : ∀ l : List Br, 0 ≤ costL B I l
  | [] => by simp [costL]
  | b :: l => by
    have h1 := costB_nn (I := I) hB b
    have h2 := costL_nn (I := I) hB l
    simp only [costL]
    omega
end
theorem ssum_ok (c : Cls) (hwc : wCls c ≤ 1048576) (B : List Int) (hB : bdD B) : ∀ (N : Nat) (l : List Sm) (R : List Br), l.length = N → l.length ≤ 1048576 → growI l = some R → goodL B c.insts R →
    PFun X 63 [.agg ((eCls c).map .d), .d (.im (l.map eSm)), .d (.im (B.map eNum))] (vi (min (costL B c.insts R) 400001)) := by
  intro N
  induction N using Nat.strongRecOn with
  | _ N ih =>
    intro l R hN hl hgr hgd
    have hnn := costL_nn (I := c.insts) hB
    have fin : ∀ {v : Int}, v = min (costL B c.insts R) 400001 → AEnd.ret (vi v) = AEnd.ret (vi (min (costL B c.insts R) 400001)) := fun h => by rw [h]
    refine pfun_of Tryd.func63 rfl (by decide) Tryd.ntmps63 Tryd.results63 (by simp) rfl rfl ?_
    repeat' first
      | refine Z1 ?_ | refine Z2 ?_ | refine Zo ?_ | refine ok_seq ?_ | refine ok_block ?_
    refine ok_for (ι := Nat × Int) (fun x_ => envL [(1, .d (.im (l.map eSm))), (2, .d (.im (B.map eNum))), (3, .ref 0 0), (7, vi x_.2), (8, vi x_.1)]) (fun x_ => stL [some (.var ((eCls c).map .d))]) (fun x_ => x_.1 ≤ l.length ∧ 0 ≤ x_.2 ∧ x_.2 ≤ 400001 ∧ ∃ T, growI (l.drop x_.1) = some T ∧ goodL B c.insts T ∧ min (x_.2 + costL B c.insts T) 400001 = min (costL B c.insts R) 400001) (fun x_ => l.length - x_.1) (0, 0) (⟨Nat.zero_le _, Int.le_refl _, by simp only; omega, R, hgr, hgd, by simp only [Int.zero_add]⟩) (weak_mk rfl ⟨.refl _, .refl _, .refl _, .refl _, .refl _, trivial⟩ ⟨⟨rfl, _, rfl, rfl, fun _ _ _ => .refl _⟩, trivial⟩) (fun _ => Nat.le_refl 1) ?_
    rintro ⟨i, v⟩ ⟨i1, i2, i3, T, i4, i5, i6⟩
    simp only at i1 i2 i3 i4 i5 i6
    rcases hx : l[i]? with _ | s
    · have hle := none_le hx
      have ek : decide ((i : Int) < (l.length : Int)) = false := decide_eq_false (by omega)
      rw [drop_none hx, growI_nil, Option.some.injEq] at i4
      subst i4
      simp only [costL] at i6
      repeat' first
        | refine Z1 ?_ | refine Z2 ?_ | refine Z5 ?_ | refine Zd ?_ | refine Zo ?_ | refine ok_seq ?_ | refine Zq ?_ | refine ok_exit ?_ | refine ok_ret ?_ | refine x_normal_then ?_ | refine x_exit_here ?_ | refine Zv ?_ | refine Zt ?_
      exact fin (by omega)
    obtain ⟨hd, hlt⟩ := drop_some hx
    have ek : decide ((i : Int) < (l.length : Int)) = true := decide_eq_true (by omega)
    have hsp := grow_spell i4
    rw [hd] at hsp
    by_cases k4 : s.kind = 4
    · have d4 : decide (s.kind = 4) = true := decide_eq_true k4
      obtain ⟨y, e, n, f, r2, Y, N2, T2, hr, h5, h6, hy, hn, ht, hT⟩ := if_inv k4 hsp
      subst hT
      rw [hr] at hd
      have hp : partsS l i = (((i + 1 + y.length : Nat) : Int), ((i + 1 + y.length + 1 + n.length : Nat) : Int)) := by unfold partsS; rw [hd]; exact parts_if k4 h5 h6 hy hn r2 i
      have hps := sparts_ok l i i1 hl
      rw [hp] at hps
      obtain ⟨c0, c1, c2, c3⟩ := cut_parts hd
      simp only [goodL, goodB] at i5
      obtain ⟨⟨g1, g2, g3⟩, g4⟩ := i5
      have hcy := ih y.length (by omega) y Y rfl (by omega) (spell_growI hy) g2
      have hcn := ih n.length (by omega) n N2 rfl (by omega) (spell_growI hn) g3
      have n1 := hnn Y
      have n2 := hnn N2
      have n3 := hnn T2
      simp only [costL, costB] at i6
      rw [if_neg (by omega), if_pos k4] at i6
      generalize hcY : costL B c.insts Y = cY at hcy n1 i6
      generalize hcN : costL B c.insts N2 = cN at hcn n2 i6
      have hgt : growI (l.drop (i + 1 + y.length + 1 + n.length + 1)) = some T2 := by rw [c3]; exact spell_growI ht
      by_cases hmx : min cY 400001 < min cN 400001
      · have em : decide (min cY 400001 < min cN 400001) = true := decide_eq_true hmx
        by_cases hb : 400000 < v + (1 + min cN 400001)
        · have eb : decide (400000 < v + (1 + min cN 400001)) = true := decide_eq_true hb
          repeat' first
            | refine Z1 ?_ | refine Z2 ?_ | refine Z3 ?_ | refine Z5 ?_ | refine Zc (hps) ?_ | refine Zd ?_ | refine Ze ?_ | refine Zf ?_ | refine Zw ?_ | refine Zx ?_
            | refine Zz (Ysl (e := eSm) (l := l) (i + 1) (i + 1 + y.length) y c1 ⟨rfl, rfl⟩) ?_ | refine Zz (Ysl (e := eSm) (l := l) (i + 1 + y.length + 1) (i + 1 + y.length + 1 + n.length) n c2 ⟨rfl, rfl⟩) ?_
            | refine Zz (Zc (hcy) ⟨rfl, rfl⟩) ?_ | refine Zz (Zc (hcn) ⟨rfl, rfl⟩) ?_ | refine Zz (Zf ⟨rfl, rfl⟩) ?_ | refine Zo ?_ | refine ok_seq ?_ | refine ok_reg ?_ | refine ok_draw X_mixed (by decide +kernel) ?_ | refine Zp ?_
            | refine ok_block ?_ | refine ok_skip ?_ | refine x_normal_then ?_ | refine x_normal_block ?_
          exact ⟨(i + 1 + y.length + 1 + n.length + 1, 400001), ⟨by simp only; omega, by simp only; omega, by simp only; omega, T2, hgt, g4, by simp only; omega⟩, by (try simp only); omega, low_mk (Nat.le_of_ble_eq_true rfl) ⟨⟨rfl, rfl⟩, ⟨rfl, rfl⟩, ⟨rfl, rfl⟩, ⟨rfl, rfl⟩, ⟨rfl, rfl⟩, trivial⟩ ⟨⟨rfl, rfl⟩, trivial⟩⟩
        · have eb : decide (400000 < v + (1 + min cN 400001)) = false := decide_eq_false hb
          repeat' first
            | refine Z1 ?_ | refine Z2 ?_ | refine Z3 ?_ | refine Z5 ?_ | refine Zc (hps) ?_ | refine Zd ?_ | refine Ze ?_ | refine Zf ?_ | refine Zw ?_ | refine Zx ?_
            | refine Zz (Ysl (e := eSm) (l := l) (i + 1) (i + 1 + y.length) y c1 ⟨rfl, rfl⟩) ?_ | refine Zz (Ysl (e := eSm) (l := l) (i + 1 + y.length + 1) (i + 1 + y.length + 1 + n.length) n c2 ⟨rfl, rfl⟩) ?_
            | refine Zz (Zc (hcy) ⟨rfl, rfl⟩) ?_ | refine Zz (Zc (hcn) ⟨rfl, rfl⟩) ?_ | refine Zz (Zf ⟨rfl, rfl⟩) ?_ | refine Zo ?_ | refine ok_seq ?_ | refine ok_reg ?_ | refine ok_draw X_mixed (by decide +kernel) ?_ | refine Zp ?_
            | refine Zq ?_ | refine ok_block ?_ | refine ok_skip ?_ | refine x_normal_then ?_ | refine x_normal_block ?_
          exact ⟨(i + 1 + y.length + 1 + n.length + 1, v + (1 + min cN 400001)), ⟨by simp only; omega, by simp only; omega, by simp only; omega, T2, hgt, g4, by simp only; omega⟩, by (try simp only); omega, low_mk (Nat.le_of_ble_eq_true rfl) ⟨⟨rfl, rfl⟩, ⟨rfl, rfl⟩, ⟨rfl, rfl⟩, ⟨rfl, rfl⟩, ⟨rfl, rfl⟩, trivial⟩ ⟨⟨rfl, rfl⟩, trivial⟩⟩
      · have em : decide (min cY 400001 < min cN 400001) = false := decide_eq_false hmx
        by_cases hb : 400000 < v + (1 + min cY 400001)
        · have eb : decide (400000 < v + (1 + min cY 400001)) = true := decide_eq_true hb
          repeat' first
            | refine Z1 ?_ | refine Z2 ?_ | refine Z3 ?_ | refine Z5 ?_ | refine Zc (hps) ?_ | refine Zd ?_ | refine Ze ?_ | refine Zf ?_ | refine Zw ?_ | refine Zx ?_
            | refine Zz (Ysl (e := eSm) (l := l) (i + 1) (i + 1 + y.length) y c1 ⟨rfl, rfl⟩) ?_ | refine Zz (Ysl (e := eSm) (l := l) (i + 1 + y.length + 1) (i + 1 + y.length + 1 + n.length) n c2 ⟨rfl, rfl⟩) ?_
            | refine Zz (Zc (hcy) ⟨rfl, rfl⟩) ?_ | refine Zz (Zc (hcn) ⟨rfl, rfl⟩) ?_ | refine Zz (Zf ⟨rfl, rfl⟩) ?_ | refine Zo ?_ | refine ok_seq ?_ | refine ok_reg ?_ | refine ok_draw X_mixed (by decide +kernel) ?_ | refine Zp ?_
            | refine Zq ?_ | refine ok_block ?_ | refine ok_skip ?_ | refine x_normal_then ?_ | refine x_normal_block ?_
          exact ⟨(i + 1 + y.length + 1 + n.length + 1, 400001), ⟨by simp only; omega, by simp only; omega, by simp only; omega, T2, hgt, g4, by simp only; omega⟩, by (try simp only); omega, low_mk (Nat.le_of_ble_eq_true rfl) ⟨⟨rfl, rfl⟩, ⟨rfl, rfl⟩, ⟨rfl, rfl⟩, ⟨rfl, rfl⟩, ⟨rfl, rfl⟩, trivial⟩ ⟨⟨rfl, rfl⟩, trivial⟩⟩
        · have eb : decide (400000 < v + (1 + min cY 400001)) = false := decide_eq_false hb
          repeat' first
            | refine Z1 ?_ | refine Z2 ?_ | refine Z3 ?_ | refine Z5 ?_ | refine Zc (hps) ?_ | refine Zd ?_ | refine Ze ?_ | refine Zf ?_ | refine Zw ?_ | refine Zx ?_
            | refine Zz (Ysl (e := eSm) (l := l) (i + 1) (i + 1 + y.length) y c1 ⟨rfl, rfl⟩) ?_ | refine Zz (Ysl (e := eSm) (l := l) (i + 1 + y.length + 1) (i + 1 + y.length + 1 + n.length) n c2 ⟨rfl, rfl⟩) ?_
            | refine Zz (Zc (hcy) ⟨rfl, rfl⟩) ?_ | refine Zz (Zc (hcn) ⟨rfl, rfl⟩) ?_ | refine Zz (Zf ⟨rfl, rfl⟩) ?_ | refine Zo ?_ | refine ok_seq ?_ | refine ok_reg ?_ | refine ok_draw X_mixed (by decide +kernel) ?_ | refine Zp ?_
            | refine Zq ?_ | refine ok_block ?_ | refine ok_skip ?_ | refine x_normal_then ?_ | refine x_normal_block ?_
          exact ⟨(i + 1 + y.length + 1 + n.length + 1, v + (1 + min cY 400001)), ⟨by simp only; omega, by simp only; omega, by simp only; omega, T2, hgt, g4, by simp only; omega⟩, by (try simp only); omega, low_mk (Nat.le_of_ble_eq_true rfl) ⟨⟨rfl, rfl⟩, ⟨rfl, rfl⟩, ⟨rfl, rfl⟩, ⟨rfl, rfl⟩, ⟨rfl, rfl⟩, trivial⟩ ⟨⟨rfl, rfl⟩, trivial⟩⟩
    have d4 : decide (s.kind = 4) = false := decide_eq_false k4
    obtain ⟨_, _, T2, ht, hT⟩ := leaf_inv k4 hsp
    subst hT
    simp only [goodL, goodB] at i5
    obtain ⟨⟨g1, _⟩, g4⟩ := i5
    have n3 := hnn T2
    simp only [costL, costB] at i6
    by_cases k3 : s.kind = 3
    · have d3 : decide (s.kind = 3) = true := decide_eq_true k3
      obtain ⟨p0, g, b, hI, g0, hb⟩ := g1 k3
      rw [if_pos k3] at i6
      have hc : callC B c.insts s.pos = b := by unfold callC; rw [hI]; simp only [Option.getD_some]; rw [hb]; rfl
      rw [hc] at i6
      have hbb := hB b (List.mem_of_getElem? hb)
      obtain ⟨p, hp⟩ : ∃ p : Nat, s.pos = (p : Int) := ⟨s.pos.toNat, by omega⟩
      obtain ⟨q, hq⟩ : ∃ q : Nat, g = (q : Int) := ⟨g.toNat, by omega⟩
      rw [hp, Int.toNat_natCast] at hI
      rw [hq, Int.toNat_natCast] at hb
      by_cases hm : 400000 < v + (1 + b)
      · have eb : decide (400000 < v + (1 + b)) = true := decide_eq_true hm
        repeat' first
          | refine Z1 ?_ | refine Z2 ?_ | refine Z3 ?_ | refine Z5 ?_ | refine Zd ?_ | refine Ze ?_ | refine Zf ?_ | refine Zw ?_ | refine Zy ?_ | refine Zz (Yej (e := eNum) (n := s.pos) p hp hI ⟨rfl, rfl⟩) ?_
          | refine Zz (Yej (e := eNum) (n := g) q hq hb ⟨rfl, rfl⟩) ?_ | refine Zz (Ze ⟨rfl, rfl⟩) ?_ | refine Zz (Zf ⟨rfl, rfl⟩) ?_ | refine Zo ?_ | refine ok_seq ?_ | refine ok_reg ?_ | refine ok_draw X_mixed (by decide +kernel) ?_
          | refine Zp ?_ | refine Zq ?_ | refine ok_block ?_ | refine ok_skip ?_ | refine x_normal_then ?_ | refine x_normal_block ?_
        exact ⟨(i + 1, 400001), ⟨hlt, by simp only; omega, by simp only; omega, T2, spell_growI ht, g4, by simp only; omega⟩, by (try simp only); omega, low_mk (Nat.le_of_ble_eq_true rfl) ⟨⟨rfl, rfl⟩, ⟨rfl, rfl⟩, ⟨rfl, rfl⟩, ⟨rfl, rfl⟩, ⟨rfl, rfl⟩, trivial⟩ ⟨⟨rfl, rfl⟩, trivial⟩⟩
      · have eb : decide (400000 < v + (1 + b)) = false := decide_eq_false hm
        repeat' first
          | refine Z1 ?_ | refine Z2 ?_ | refine Z3 ?_ | refine Z5 ?_ | refine Zd ?_ | refine Ze ?_ | refine Zf ?_ | refine Zw ?_ | refine Zy ?_ | refine Zz (Yej (e := eNum) (n := s.pos) p hp hI ⟨rfl, rfl⟩) ?_
          | refine Zz (Yej (e := eNum) (n := g) q hq hb ⟨rfl, rfl⟩) ?_ | refine Zz (Ze ⟨rfl, rfl⟩) ?_ | refine Zz (Zf ⟨rfl, rfl⟩) ?_ | refine Zo ?_ | refine ok_seq ?_ | refine ok_reg ?_ | refine ok_draw X_mixed (by decide +kernel) ?_
          | refine Zp ?_ | refine Zq ?_ | refine ok_block ?_ | refine ok_skip ?_ | refine x_normal_then ?_ | refine x_normal_block ?_
        exact ⟨(i + 1, v + (1 + b)), ⟨hlt, by simp only; omega, by simp only; omega, T2, spell_growI ht, g4, by simp only; omega⟩, by (try simp only); omega, low_mk (Nat.le_of_ble_eq_true rfl) ⟨⟨rfl, rfl⟩, ⟨rfl, rfl⟩, ⟨rfl, rfl⟩, ⟨rfl, rfl⟩, ⟨rfl, rfl⟩, trivial⟩ ⟨⟨rfl, rfl⟩, trivial⟩⟩
    have d3 : decide (s.kind = 3) = false := decide_eq_false k3
    rw [if_neg k3, if_neg k4] at i6
    by_cases hm : 400000 < v + 1
    · have eb : decide (400000 < v + 1) = true := decide_eq_true hm
      repeat' first
        | refine Z1 ?_ | refine Z2 ?_ | refine Z3 ?_ | refine Z5 ?_ | refine Zd ?_ | refine Ze ?_ | refine Zf ?_ | refine Zo ?_ | refine ok_seq ?_ | refine ok_reg ?_ | refine Zp ?_ | refine Zq ?_ | refine ok_block ?_ | refine ok_skip ?_
        | refine x_normal_then ?_ | refine x_normal_block ?_
      exact ⟨(i + 1, 400001), ⟨hlt, by simp only; omega, by simp only; omega, T2, spell_growI ht, g4, by simp only; omega⟩, by (try simp only); omega, low_mk (Nat.le_of_ble_eq_true rfl) ⟨⟨rfl, rfl⟩, ⟨rfl, rfl⟩, ⟨rfl, rfl⟩, ⟨rfl, rfl⟩, ⟨rfl, rfl⟩, trivial⟩ ⟨⟨rfl, rfl⟩, trivial⟩⟩
    · have eb : decide (400000 < v + 1) = false := decide_eq_false hm
      repeat' first
        | refine Z1 ?_ | refine Z2 ?_ | refine Z3 ?_ | refine Z5 ?_ | refine Zd ?_ | refine Ze ?_ | refine Zf ?_ | refine Zo ?_ | refine ok_seq ?_ | refine ok_reg ?_ | refine Zp ?_ | refine Zq ?_ | refine ok_block ?_ | refine ok_skip ?_
        | refine x_normal_then ?_ | refine x_normal_block ?_
      exact ⟨(i + 1, v + 1), ⟨hlt, by simp only; omega, by simp only; omega, T2, spell_growI ht, g4, by simp only; omega⟩, by (try simp only); omega, low_mk (Nat.le_of_ble_eq_true rfl) ⟨⟨rfl, rfl⟩, ⟨rfl, rfl⟩, ⟨rfl, rfl⟩, ⟨rfl, rfl⟩, ⟨rfl, rfl⟩, trivial⟩ ⟨⟨rfl, rfl⟩, trivial⟩⟩
def boundV (B : List Int) (c : Cls) : Int := min (costL B c.insts ((growI c.body).getD [])) 400001
def boundsGo : List Int → List Cls → List Int
  | B, [] => B
  | B, c :: r => boundsGo (B ++ [boundV B c]) r
def boundsS (cs : List Cls) : List Int := boundsGo [] cs
def goodC (k : Nat) (c : Cls) : Prop := (∃ R, growI c.body = some R) ∧ (∀ g ∈ c.insts, 0 ≤ g ∧ g < (k : Int)) ∧ ∀ s ∈ c.body, s.kind = 3 → 0 ≤ s.pos ∧ s.pos < (c.insts.length : Int)
theorem goodC_good {k : Nat} {c : Cls} (h : goodC k c) {B : List Int} (hB : B.length = k) : ∀ s ∈ c.body, goodS B c.insts s := by
  intro s hs h3
  obtain ⟨_, h1, h2⟩ := h
  obtain ⟨g1, g2⟩ := h2 s hs h3
  have hig : c.insts[s.pos.toNat]? = some (c.insts[s.pos.toNat]'(by omega)) := List.getElem?_eq_getElem (by omega)
  obtain ⟨g3, g4⟩ := h1 _ (List.mem_of_getElem? hig)
  exact ⟨g1, _, _, hig, g3, List.getElem?_eq_getElem (by omega)⟩
theorem sbounds_ok (cs : List Cls) (hw : wL wCls cs ≤ 1048576) (hg : ∀ (k : Nat) (c : Cls), cs[k]? = some c → goodC k c) : PFun X 36 [.agg [.d (.im (cs.map eCls))]] (.d (.im ((boundsS cs).map eNum))) := by
  have hcl : cs.length ≤ 1048576 := by simp only [wL] at hw; omega
  refine pfun_of Tryd.func36 rfl (by decide) Tryd.ntmps36 Tryd.results36 (by simp) rfl rfl ?_
  repeat' first
    | refine Z1 ?_ | refine Z2 ?_ | refine Z5 ?_ | refine op_bslice rfl rfl rfl rfl rfl rfl rfl ?_ | refine Zd ?_ | refine Zo ?_ | refine ok_seq ?_ | refine ok_block ?_
  refine ok_forR (ι := Nat × List Int) (fun x_ => envL [(1, .ref 0 0), (3, .sl 1 2 0 x_.2.length), (8, .d (.im (cs.map eCls))), (9, vi cs.length), (10, vi x_.1)]) (fun x_ => stL [some (.var [.d (.im (cs.map eCls))]), some (.row 2 3 1 (im2 eNum x_.2)), none]) (fun x_ => x_.1 ≤ cs.length ∧ x_.2.length = x_.1 ∧ bdD x_.2 ∧ boundsGo x_.2 (cs.drop x_.1) = boundsS cs) (fun x_ => cs.length - x_.1) (0, []) (⟨Nat.zero_le _, rfl, fun x hx => by simp at hx, rfl⟩) Turn.refl (lowR_mk [(2, 1)] rfl rfl rfl ⟨⟨rfl, rfl⟩, ⟨rfl, rfl⟩, ⟨rfl, rfl⟩, ⟨rfl, rfl⟩, ⟨rfl, rfl⟩, trivial⟩ ⟨⟨rfl, rfl⟩, ⟨renO_row rfl (by first | exact im2_ren _ _ _ | rfl), blt_lt rfl, im2_low _ _ _⟩, trivial⟩) ?_
  rintro ⟨k, B⟩ ⟨i1, i2, i3, i5⟩
  simp only at i1 i2 i3 i5
  rcases hx : cs[k]? with _ | c
  · have hle := none_le hx
    have ek : decide ((k : Int) < (cs.length : Int)) = false := decide_eq_false (by omega)
    rw [drop_none hx] at i5
    have i5 : B = boundsS cs := i5
    subst i5
    repeat' first
      | refine Z1 ?_ | refine Z2 ?_ | refine fz_rows (e := eNum) (l := boundsS cs) rfl 2 rfl rfl rfl ?_ | refine Zo ?_ | refine ok_seq ?_ | refine Zq ?_ | refine ok_exit ?_ | refine ok_ret ?_ | refine x_normal_then ?_ | refine x_exit_here ?_
      | refine Zv ?_ | refine Zt ?_
    rfl
  obtain ⟨hd, hlt⟩ := drop_some hx
  have ek : decide ((k : Int) < (cs.length : Int)) = true := decide_eq_true (by omega)
  have hwc : wCls c ≤ 1048576 := by have := wL_mem (w := wCls) (List.mem_of_getElem? hx); simp only [wL] at hw; omega
  have hl := cls_le hwc
  have hgc := hg k c hx
  obtain ⟨R, hR⟩ := hgc.1
  obtain ⟨gg, _⟩ := grow_good (goodC_good hgc i2) hR
  have hsum := ssum_ok c hwc B i3 c.body.length c.body R rfl (by omega) hR gg
  have hbv : boundV B c = min (costL B c.insts R) 400001 := by unfold boundV; rw [hR]; rfl
  have hnn := costL_nn (I := c.insts) i3 R
  rw [← hbv] at hsum
  rw [hd] at i5
  simp only [boundsGo] at i5
  have hpush : bdD (B ++ [boundV B c]) := by
    intro z hz
    rcases List.mem_append.1 hz with h' | h'
    · exact i3 z h'
    · simp only [List.mem_singleton] at h'; subst h'; omega
  repeat' first
    | refine Z1 ?_ | refine Z2 ?_ | refine Z3 ?_ | refine Z4 ?_ | refine Z5 ?_
    | refine Ym (PFun.lendL (args := [.agg ((eCls c).map .d), .d (.im (c.body.map eSm)), .sl 1 2 0 B.length]) hsum ⟨afz_row _, afz_d _, .data (fz_im2 rfl rfl), trivial⟩) ?_ | refine Yl (e := eNum) (l := B) [boundV B c] ?_ | refine Ze ?_
    | refine Zf ?_ | refine Zo ?_ | refine ok_seq ?_ | refine ok_reg ?_ | refine Zp ?_ | refine ok_block ?_ | refine ok_skip ?_ | refine x_normal_then ?_ | refine x_normal_block ?_
  exact ⟨(k + 1, B ++ [boundV B c]), ⟨hlt, by simp [i2], hpush, i5⟩, by (try simp only); omega, lowR_mk [(2, 5)] rfl rfl rfl ⟨⟨rfl, rfl⟩, ⟨rfl, rfl⟩, ⟨rfl, rfl⟩, ⟨rfl, rfl⟩, ⟨rfl, rfl⟩, trivial⟩ ⟨⟨rfl, rfl⟩, ⟨renO_row rfl (by first | exact im2_ren _ _ _ | rfl), blt_lt rfl, im2_low _ _ _⟩, trivial⟩⟩
end Go.Pm
