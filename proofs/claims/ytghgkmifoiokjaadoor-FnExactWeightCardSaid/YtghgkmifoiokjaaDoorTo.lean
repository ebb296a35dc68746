/- The laws' copies and comparisons (printed by gen_to.py). -/
import Derived.Test.YtghgkmifoiokjaaDoorCf
set_option linter.unusedVariables false
set_option linter.unusedSimpArgs false
namespace Go.Pm
attribute [local irreducible] AR Ok inBlock andThen endQ aoper
set_option maxHeartbeats 1000000
open Go.Proofs
theorem wL_mem {α : Type} {w : α → Nat} {x : α} : ∀ {l : List α}, x ∈ l → w x ≤ (l.map w).sum
  | y :: l, h => by
    simp only [List.map_cons, List.sum_cons]
    rcases List.mem_cons.1 h with rfl | h
    · omega
    · have := wL_mem (w := w) h; omega

theorem toCond_ok (x : Cnd) (hw : wCnd x ≤ 1048576) : PFun X 71 [.agg ((eCnd x).map .d)] (.agg ((eCnd x).map .d)) := by
  simp only [wCnd] at hw
  refine pfun_of Tryd.func71 rfl (by decide) Tryd.ntmps71 Tryd.results71 (by simp) rfl rfl ?_
  repeat' first
    | refine Z1 ?_ | refine Z2 ?_ | refine Z3 ?_ | refine Z4 ?_ | refine Z5 ?_ | refine Z6 ?_ | refine Z7 ?_ | refine Z8 ?_ | refine Z9 ?_ | refine Za (fun hc => ?_) (fun hc => ?_) | refine Zb (fun hc => ?_) (fun hc => ?_) | refine Zd ?_
    | refine Ze ?_ | refine Zf ?_ | refine Zg ?_ | refine Zh ?_ | refine Zi ?_ | refine Zj ?_ | refine Zk ?_ | refine Zl ?_ | refine Zm ?_ | refine Zn (fun hc => ?_) (fun hc => ?_) | refine Zo ?_ | refine ok_seq ?_ | refine ok_reg ?_
    | refine Zp ?_ | refine Zq ?_ | refine Zr (fun hc => ?_) (fun hc => ?_) | refine ok_block ?_ | refine ok_exit ?_ | refine ok_skip ?_ | refine ok_ret ?_ | refine x_normal_then ?_ | refine x_exit_here ?_ | refine Zs ?_ | refine Zv ?_
    | refine x_ret_then ?_ | refine x_ret_block ?_ | refine x_normal_block ?_ | refine Zt ?_ | refine Zu ?_
  rfl
theorem eqCond_ok (x : Cnd) (hw : wCnd x ≤ 1048576) : PFun X 73 [.agg ((eCnd x).map .d), .agg ((eCnd x).map .d)] (vb true) := by
  simp only [wCnd] at hw
  have ht : (!true) = false := rfl
  have e0 : decide (x.name ≠ x.name) = false := decide_eq_false (fun h => h rfl)
  have e9 : (!(x.on == x.on)) = false := by simp
  refine pfun_of Tryd.func73 rfl (by decide) Tryd.ntmps73 Tryd.results73 (by simp) rfl rfl ?_
  repeat' first
    | refine Z1 ?_ | refine Z2 ?_ | refine Z3 ?_ | refine Z4 ?_ | refine Z5 ?_ | refine Z6 ?_ | refine Z7 ?_ | refine Z8 ?_ | refine Z9 ?_ | refine Za (fun hc => ?_) (fun hc => ?_) | refine Zb (fun hc => ?_) (fun hc => ?_) | refine Zd ?_
    | refine Ze ?_ | refine Zf ?_ | refine Zg ?_ | refine Zh ?_ | refine Zi ?_ | refine Zj ?_ | refine Zk ?_ | refine Zl ?_ | refine Zm ?_ | refine Zn (fun hc => ?_) (fun hc => ?_) | refine Zo ?_ | refine ok_seq ?_ | refine ok_reg ?_
    | refine Zp ?_ | refine Zq ?_ | refine Zr (fun hc => ?_) (fun hc => ?_) | refine ok_block ?_ | refine ok_exit ?_ | refine ok_skip ?_ | refine ok_ret ?_ | refine x_normal_then ?_ | refine x_exit_here ?_ | refine Zs ?_ | refine Zv ?_
    | refine x_ret_then ?_ | refine x_ret_block ?_ | refine x_normal_block ?_ | refine Zt ?_ | refine Zu ?_
  rfl

theorem toCondS_ok (l : List (Cnd)) (hw : wL (wCnd) l ≤ 1048576) : PFun X 61 [.d (.im (l.map eCnd))] (.d (.im (l.map eCnd))) := by
  simp only [wL] at hw
  refine pfun_of Tryd.func61 rfl (by decide) Tryd.ntmps61 Tryd.results61 (by simp) rfl rfl ?_
  repeat' first
    | refine Z1 ?_ | refine Z2 ?_ | refine Z3 ?_ | refine Z4 ?_ | refine Z5 ?_ | refine Z6 ?_ | refine Z7 ?_ | refine Z8 ?_ | refine Z9 ?_ | refine Za (fun hc => ?_) (fun hc => ?_) | refine Zb (fun hc => ?_) (fun hc => ?_)
    | refine op_make (k := l.length) rfl rfl (by omega) rfl rfl rfl rfl rfl rfl ?_ | refine Zd ?_ | refine Ze ?_ | refine Zf ?_ | refine Zg ?_ | refine Zh ?_ | refine Zi ?_ | refine Zj ?_ | refine Zk ?_ | refine Zl ?_ | refine Zm ?_
    | refine Zn (fun hc => ?_) (fun hc => ?_) | refine Zo ?_ | refine ok_seq ?_ | refine ok_reg ?_ | refine Zp ?_ | refine Zq ?_ | refine Zr (fun hc => ?_) (fun hc => ?_) | refine ok_block ?_ | refine ok_exit ?_ | refine ok_skip ?_
    | refine ok_ret ?_ | refine x_normal_then ?_ | refine x_exit_here ?_ | refine Zs ?_ | refine Zv ?_ | refine x_ret_then ?_ | refine x_ret_block ?_ | refine x_normal_block ?_ | refine Zt ?_ | refine Zu ?_
  refine ok_for (ι := Nat) (fun x => envL [(0, .d (.im (l.map eCnd))), (3, .sl 0 0 0 l.length), (4, vi x)]) (fun x => stL [some (.row 0 46 2 (trk eCnd l x [.d (.s (.string .empty)), .d (.s (.bool false))]))]) (fun x => x ≤ l.length) (fun x => l.length - x) 0 (Nat.zero_le _) (weak_mk rfl ⟨.refl _, .refl _, .refl _, trivial⟩ ⟨⟨rfl, _, rfl, rfl, rfl, rfl, rfl⟩, trivial⟩) (fun _ => Nat.le_refl _) ?_
  intro k i1
  rcases hx : l[k]? with _ | x
  · have hle := none_le hx
    have ek : decide ((k : Int) < (l.length : Int)) = false := decide_eq_false (by omega)
    repeat' first
      | refine Z1 ?_ | refine Z2 ?_ | refine Z3 ?_ | refine Z4 ?_ | refine Z5 ?_ | refine Z6 ?_ | refine Z7 ?_ | refine Z8 ?_ | refine Z9 ?_ | refine Za (fun hc => ?_) (fun hc => ?_) | refine Zb (fun hc => ?_) (fun hc => ?_) | refine Zd ?_
      | refine Ze ?_ | refine Zf ?_ | refine Zg ?_ | refine Zh ?_ | refine Zi ?_ | refine Zj ?_ | refine Zk ?_ | refine Zl ?_ | refine Zm ?_ | refine Zn (fun hc => ?_) (fun hc => ?_) | refine fz_rows (trk_all hle) 2 rfl rfl rfl ?_
      | refine Zo ?_ | refine ok_seq ?_ | refine ok_reg ?_ | refine Zp ?_ | refine Zq ?_ | refine Zr (fun hc => ?_) (fun hc => ?_) | refine ok_block ?_ | refine ok_exit ?_ | refine ok_skip ?_ | refine ok_ret ?_ | refine x_normal_then ?_
      | refine x_exit_here ?_ | refine Zs ?_ | refine Zv ?_ | refine x_ret_then ?_ | refine x_ret_block ?_ | refine x_normal_block ?_ | refine Zt ?_ | refine Zu ?_
    rfl
  · obtain ⟨hdr, hlt⟩ := drop_some hx
    have hwx := wL_mem (w := wCnd) (List.mem_of_getElem? hx)
    have ek : decide ((k : Int) < (l.length : Int)) = true := decide_eq_true (by omega)
    repeat' first
      | refine Z1 ?_ | refine Z2 ?_ | refine Z3 ?_ | refine Z4 ?_ | refine Z5 ?_ | refine Z6 ?_ | refine Z7 ?_ | refine Z8 ?_ | refine Z9 ?_ | refine Za (fun hc => ?_) (fun hc => ?_) | refine Zb (fun hc => ?_) (fun hc => ?_)
      | refine op_place rfl rfl hlt rfl rfl rfl rfl ?_ | refine op_putk hx rfl rfl rfl rfl rfl rfl rfl rfl ?_ | refine Zc (toCond_ok x (by omega)) ?_ | refine Zd ?_ | refine Ze ?_ | refine Zf ?_ | refine Zg ?_ | refine Zh ?_ | refine Zi ?_
      | refine Zj ?_ | refine Zk ?_ | refine Zl ?_ | refine Zm ?_ | refine Zn (fun hc => ?_) (fun hc => ?_) | refine Zo ?_ | refine ok_seq ?_ | refine ok_reg ?_ | refine Zp ?_ | refine Zq ?_ | refine Zr (fun hc => ?_) (fun hc => ?_)
      | refine ok_block ?_ | refine ok_exit ?_ | refine ok_skip ?_ | refine ok_ret ?_ | refine x_normal_then ?_ | refine x_exit_here ?_ | refine Zs ?_ | refine Zv ?_ | refine x_ret_then ?_ | refine x_ret_block ?_ | refine x_normal_block ?_
      | refine Zt ?_ | refine Zu ?_
    exact ⟨k + 1, hlt, by (try simp only); omega, low_mk (Nat.le_of_ble_eq_true rfl) ⟨⟨rfl, rfl⟩, ⟨rfl, rfl⟩, ⟨rfl, rfl⟩, trivial⟩ ⟨⟨rfl, blt_lt rfl, trk_low _ _ _ _ rfl⟩, trivial⟩⟩
theorem eqCondS_ok (l : List (Cnd)) (hw : wL (wCnd) l ≤ 1048576) : PFun X 65 [.d (.im (l.map eCnd)), .d (.im (l.map eCnd))] (vb true) := by
  have ht : (!true) = false := rfl
  simp only [wL] at hw
  have e0 : decide ((l.length : Int) ≠ (l.length : Int)) = false := decide_eq_false (fun h => h rfl)
  refine pfun_of Tryd.func65 rfl (by decide) Tryd.ntmps65 Tryd.results65 (by simp) rfl rfl ?_
  repeat' first
    | refine Z1 ?_ | refine Z2 ?_ | refine Z3 ?_ | refine Z4 ?_ | refine Z5 ?_ | refine Z6 ?_ | refine Z7 ?_ | refine Z8 ?_ | refine Z9 ?_ | refine Za (fun hc => ?_) (fun hc => ?_) | refine Zb (fun hc => ?_) (fun hc => ?_) | refine Zd ?_
    | refine Ze ?_ | refine Zf ?_ | refine Zg ?_ | refine Zh ?_ | refine Zi ?_ | refine Zj ?_ | refine Zk ?_ | refine Zl ?_ | refine Zm ?_ | refine Zn (fun hc => ?_) (fun hc => ?_) | refine Zo ?_ | refine ok_seq ?_ | refine ok_reg ?_
    | refine Zp ?_ | refine Zq ?_ | refine Zr (fun hc => ?_) (fun hc => ?_) | refine ok_block ?_ | refine ok_exit ?_ | refine ok_skip ?_ | refine ok_ret ?_ | refine x_normal_then ?_ | refine x_exit_here ?_ | refine Zs ?_ | refine Zv ?_
    | refine x_ret_then ?_ | refine x_ret_block ?_ | refine x_normal_block ?_ | refine Zt ?_ | refine Zu ?_
  refine ok_for (ι := Nat) (fun x => envL [(0, .d (.im (l.map eCnd))), (1, .d (.im (l.map eCnd))), (4, vb false), (5, vi x)]) (fun x => stL []) (fun x => x ≤ l.length) (fun x => l.length - x) 0 (Nat.zero_le _) (weak_mk rfl ⟨.refl _, .refl _, .refl _, .refl _, trivial⟩ trivial) (fun _ => Nat.le_refl _) ?_
  intro k i1
  rcases hx : l[k]? with _ | x
  · have hle := none_le hx
    have ek : decide ((k : Int) < (l.length : Int)) = false := decide_eq_false (by omega)
    repeat' first
      | refine Z1 ?_ | refine Z2 ?_ | refine Z3 ?_ | refine Z4 ?_ | refine Z5 ?_ | refine Z6 ?_ | refine Z7 ?_ | refine Z8 ?_ | refine Z9 ?_ | refine Za (fun hc => ?_) (fun hc => ?_) | refine Zb (fun hc => ?_) (fun hc => ?_) | refine Zd ?_
      | refine Ze ?_ | refine Zf ?_ | refine Zg ?_ | refine Zh ?_ | refine Zi ?_ | refine Zj ?_ | refine Zk ?_ | refine Zl ?_ | refine Zm ?_ | refine Zn (fun hc => ?_) (fun hc => ?_) | refine Zo ?_ | refine ok_seq ?_ | refine ok_reg ?_
      | refine Zp ?_ | refine Zq ?_ | refine Zr (fun hc => ?_) (fun hc => ?_) | refine ok_block ?_ | refine ok_exit ?_ | refine ok_skip ?_ | refine ok_ret ?_ | refine x_normal_then ?_ | refine x_exit_here ?_ | refine Zs ?_ | refine Zv ?_
      | refine x_ret_then ?_ | refine x_ret_block ?_ | refine x_normal_block ?_ | refine Zt ?_ | refine Zu ?_
    rfl
  · obtain ⟨hdr, hlt⟩ := drop_some hx
    have hwx := wL_mem (w := wCnd) (List.mem_of_getElem? hx)
    have ek : decide ((k : Int) < (l.length : Int)) = true := decide_eq_true (by omega)
    repeat' first
      | refine Z1 ?_ | refine Z2 ?_ | refine Z3 ?_ | refine Z4 ?_ | refine Z5 ?_ | refine Z6 ?_ | refine Z7 ?_ | refine Z8 ?_ | refine Z9 ?_ | refine Za (fun hc => ?_) (fun hc => ?_) | refine Zb (fun hc => ?_) (fun hc => ?_)
      | refine Zc (eqCond_ok x (by omega)) ?_ | refine Zd ?_ | refine Ze ?_ | refine Zf ?_ | refine Zg ?_ | refine Zh ?_ | refine Zi ?_ | refine Zj ?_ | refine Zk ?_ | refine Zl ?_ | refine Zm ?_ | refine Zn (fun hc => ?_) (fun hc => ?_)
      | refine Zw ?_ | refine Zx ?_ | refine Zy ?_ | refine Zz (Zc (eqCond_ok x (by omega)) ⟨rfl, rfl⟩) ?_ | refine Zz (Zd ⟨rfl, rfl⟩) ?_ | refine Zz (Ze ⟨rfl, rfl⟩) ?_ | refine Zz (Zf ⟨rfl, rfl⟩) ?_ | refine Zz (Zg ⟨rfl, rfl⟩) ?_
      | refine Zz (Zh ⟨rfl, rfl⟩) ?_ | refine Zz (Zi ⟨rfl, rfl⟩) ?_ | refine Zz (Zj ⟨rfl, rfl⟩) ?_ | refine Zz (Zk ⟨rfl, rfl⟩) ?_ | refine Zz (Zl ⟨rfl, rfl⟩) ?_ | refine Zz (Zm ⟨rfl, rfl⟩) ?_ | refine Zo ?_ | refine ok_seq ?_
      | refine ok_reg ?_ | refine ok_draw X_mixed (by decide +kernel) ?_ | refine Zp ?_ | refine Zq ?_ | refine Zr (fun hc => ?_) (fun hc => ?_) | refine ok_block ?_ | refine ok_exit ?_ | refine ok_skip ?_ | refine ok_ret ?_
      | refine x_normal_then ?_ | refine x_exit_here ?_ | refine Zs ?_ | refine Zv ?_ | refine x_ret_then ?_ | refine x_ret_block ?_ | refine x_normal_block ?_ | refine Zt ?_ | refine Zu ?_
    exact ⟨k + 1, hlt, by (try simp only); omega, low_mk (Nat.zero_le _) ⟨⟨rfl, rfl⟩, ⟨rfl, rfl⟩, ⟨rfl, rfl⟩, ⟨rfl, rfl⟩, trivial⟩ trivial⟩

theorem toItem_ok (x : Itm) (hw : wItm x ≤ 1048576) : PFun X 72 [.agg ((eItm x).map .d)] (.agg ((eItm x).map .d)) := by
  simp only [wItm] at hw
  refine pfun_of Tryd.func72 rfl (by decide) Tryd.ntmps72 Tryd.results72 (by simp) rfl rfl ?_
  repeat' first
    | refine Z1 ?_ | refine Z2 ?_ | refine Z3 ?_ | refine Z4 ?_ | refine Z5 ?_ | refine Z6 ?_ | refine Z7 ?_ | refine Z8 ?_ | refine Z9 ?_ | refine Za (fun hc => ?_) (fun hc => ?_) | refine Zb (fun hc => ?_) (fun hc => ?_) | refine Zd ?_
    | refine Ze ?_ | refine Zf ?_ | refine Zg ?_ | refine Zh ?_ | refine Zi ?_ | refine Zj ?_ | refine Zk ?_ | refine Zl ?_ | refine Zm ?_ | refine Zn (fun hc => ?_) (fun hc => ?_) | refine Zo ?_ | refine ok_seq ?_ | refine ok_reg ?_
    | refine Zp ?_ | refine Zq ?_ | refine Zr (fun hc => ?_) (fun hc => ?_) | refine ok_block ?_ | refine ok_exit ?_ | refine ok_skip ?_ | refine ok_ret ?_ | refine x_normal_then ?_ | refine x_exit_here ?_ | refine Zs ?_ | refine Zv ?_
    | refine x_ret_then ?_ | refine x_ret_block ?_ | refine x_normal_block ?_ | refine Zt ?_ | refine Zu ?_
  rfl
theorem eqItem_ok (x : Itm) (hw : wItm x ≤ 1048576) : PFun X 74 [.agg ((eItm x).map .d), .agg ((eItm x).map .d)] (vb true) := by
  simp only [wItm] at hw
  have ht : (!true) = false := rfl
  have e0 : decide (x.op ≠ x.op) = false := decide_eq_false (fun h => h rfl)
  have e1 : decide (x.val ≠ x.val) = false := decide_eq_false (fun h => h rfl)
  have e2 : decide (x.name ≠ x.name) = false := decide_eq_false (fun h => h rfl)
  refine pfun_of Tryd.func74 rfl (by decide) Tryd.ntmps74 Tryd.results74 (by simp) rfl rfl ?_
  repeat' first
    | refine Z1 ?_ | refine Z2 ?_ | refine Z3 ?_ | refine Z4 ?_ | refine Z5 ?_ | refine Z6 ?_ | refine Z7 ?_ | refine Z8 ?_ | refine Z9 ?_ | refine Za (fun hc => ?_) (fun hc => ?_) | refine Zb (fun hc => ?_) (fun hc => ?_) | refine Zd ?_
    | refine Ze ?_ | refine Zf ?_ | refine Zg ?_ | refine Zh ?_ | refine Zi ?_ | refine Zj ?_ | refine Zk ?_ | refine Zl ?_ | refine Zm ?_ | refine Zn (fun hc => ?_) (fun hc => ?_) | refine Zo ?_ | refine ok_seq ?_ | refine ok_reg ?_
    | refine Zp ?_ | refine Zq ?_ | refine Zr (fun hc => ?_) (fun hc => ?_) | refine ok_block ?_ | refine ok_exit ?_ | refine ok_skip ?_ | refine ok_ret ?_ | refine x_normal_then ?_ | refine x_exit_here ?_ | refine Zs ?_ | refine Zv ?_
    | refine x_ret_then ?_ | refine x_ret_block ?_ | refine x_normal_block ?_ | refine Zt ?_ | refine Zu ?_
  rfl

theorem toItemS_ok (l : List (Itm)) (hw : wL (wItm) l ≤ 1048576) : PFun X 63 [.d (.im (l.map eItm))] (.d (.im (l.map eItm))) := by
  simp only [wL] at hw
  refine pfun_of Tryd.func63 rfl (by decide) Tryd.ntmps63 Tryd.results63 (by simp) rfl rfl ?_
  repeat' first
    | refine Z1 ?_ | refine Z2 ?_ | refine Z3 ?_ | refine Z4 ?_ | refine Z5 ?_ | refine Z6 ?_ | refine Z7 ?_ | refine Z8 ?_ | refine Z9 ?_ | refine Za (fun hc => ?_) (fun hc => ?_) | refine Zb (fun hc => ?_) (fun hc => ?_)
    | refine op_make (k := l.length) rfl rfl (by omega) rfl rfl rfl rfl rfl rfl ?_ | refine Zd ?_ | refine Ze ?_ | refine Zf ?_ | refine Zg ?_ | refine Zh ?_ | refine Zi ?_ | refine Zj ?_ | refine Zk ?_ | refine Zl ?_ | refine Zm ?_
    | refine Zn (fun hc => ?_) (fun hc => ?_) | refine Zo ?_ | refine ok_seq ?_ | refine ok_reg ?_ | refine Zp ?_ | refine Zq ?_ | refine Zr (fun hc => ?_) (fun hc => ?_) | refine ok_block ?_ | refine ok_exit ?_ | refine ok_skip ?_
    | refine ok_ret ?_ | refine x_normal_then ?_ | refine x_exit_here ?_ | refine Zs ?_ | refine Zv ?_ | refine x_ret_then ?_ | refine x_ret_block ?_ | refine x_normal_block ?_ | refine Zt ?_ | refine Zu ?_
  refine ok_for (ι := Nat) (fun x => envL [(0, .d (.im (l.map eItm))), (3, .sl 0 0 0 l.length), (4, vi x)]) (fun x => stL [some (.row 0 66 3 (trk eItm l x [.d (.s (.int .i64 0)), .d (.s (.int .i64 0)), .d (.s (.string .empty))]))]) (fun x => x ≤ l.length) (fun x => l.length - x) 0 (Nat.zero_le _) (weak_mk rfl ⟨.refl _, .refl _, .refl _, trivial⟩ ⟨⟨rfl, _, rfl, rfl, rfl, rfl, rfl⟩, trivial⟩) (fun _ => Nat.le_refl _) ?_
  intro k i1
  rcases hx : l[k]? with _ | x
  · have hle := none_le hx
    have ek : decide ((k : Int) < (l.length : Int)) = false := decide_eq_false (by omega)
    repeat' first
      | refine Z1 ?_ | refine Z2 ?_ | refine Z3 ?_ | refine Z4 ?_ | refine Z5 ?_ | refine Z6 ?_ | refine Z7 ?_ | refine Z8 ?_ | refine Z9 ?_ | refine Za (fun hc => ?_) (fun hc => ?_) | refine Zb (fun hc => ?_) (fun hc => ?_) | refine Zd ?_
      | refine Ze ?_ | refine Zf ?_ | refine Zg ?_ | refine Zh ?_ | refine Zi ?_ | refine Zj ?_ | refine Zk ?_ | refine Zl ?_ | refine Zm ?_ | refine Zn (fun hc => ?_) (fun hc => ?_) | refine fz_rows (trk_all hle) 2 rfl rfl rfl ?_
      | refine Zo ?_ | refine ok_seq ?_ | refine ok_reg ?_ | refine Zp ?_ | refine Zq ?_ | refine Zr (fun hc => ?_) (fun hc => ?_) | refine ok_block ?_ | refine ok_exit ?_ | refine ok_skip ?_ | refine ok_ret ?_ | refine x_normal_then ?_
      | refine x_exit_here ?_ | refine Zs ?_ | refine Zv ?_ | refine x_ret_then ?_ | refine x_ret_block ?_ | refine x_normal_block ?_ | refine Zt ?_ | refine Zu ?_
    rfl
  · obtain ⟨hdr, hlt⟩ := drop_some hx
    have hwx := wL_mem (w := wItm) (List.mem_of_getElem? hx)
    have ek : decide ((k : Int) < (l.length : Int)) = true := decide_eq_true (by omega)
    repeat' first
      | refine Z1 ?_ | refine Z2 ?_ | refine Z3 ?_ | refine Z4 ?_ | refine Z5 ?_ | refine Z6 ?_ | refine Z7 ?_ | refine Z8 ?_ | refine Z9 ?_ | refine Za (fun hc => ?_) (fun hc => ?_) | refine Zb (fun hc => ?_) (fun hc => ?_)
      | refine op_place rfl rfl hlt rfl rfl rfl rfl ?_ | refine op_putk hx rfl rfl rfl rfl rfl rfl rfl rfl ?_ | refine Zc (toItem_ok x (by omega)) ?_ | refine Zd ?_ | refine Ze ?_ | refine Zf ?_ | refine Zg ?_ | refine Zh ?_ | refine Zi ?_
      | refine Zj ?_ | refine Zk ?_ | refine Zl ?_ | refine Zm ?_ | refine Zn (fun hc => ?_) (fun hc => ?_) | refine Zo ?_ | refine ok_seq ?_ | refine ok_reg ?_ | refine Zp ?_ | refine Zq ?_ | refine Zr (fun hc => ?_) (fun hc => ?_)
      | refine ok_block ?_ | refine ok_exit ?_ | refine ok_skip ?_ | refine ok_ret ?_ | refine x_normal_then ?_ | refine x_exit_here ?_ | refine Zs ?_ | refine Zv ?_ | refine x_ret_then ?_ | refine x_ret_block ?_ | refine x_normal_block ?_
      | refine Zt ?_ | refine Zu ?_
    exact ⟨k + 1, hlt, by (try simp only); omega, low_mk (Nat.le_of_ble_eq_true rfl) ⟨⟨rfl, rfl⟩, ⟨rfl, rfl⟩, ⟨rfl, rfl⟩, trivial⟩ ⟨⟨rfl, blt_lt rfl, trk_low _ _ _ _ rfl⟩, trivial⟩⟩
theorem eqItemS_ok (l : List (Itm)) (hw : wL (wItm) l ≤ 1048576) : PFun X 67 [.d (.im (l.map eItm)), .d (.im (l.map eItm))] (vb true) := by
  have ht : (!true) = false := rfl
  simp only [wL] at hw
  have e0 : decide ((l.length : Int) ≠ (l.length : Int)) = false := decide_eq_false (fun h => h rfl)
  refine pfun_of Tryd.func67 rfl (by decide) Tryd.ntmps67 Tryd.results67 (by simp) rfl rfl ?_
  repeat' first
    | refine Z1 ?_ | refine Z2 ?_ | refine Z3 ?_ | refine Z4 ?_ | refine Z5 ?_ | refine Z6 ?_ | refine Z7 ?_ | refine Z8 ?_ | refine Z9 ?_ | refine Za (fun hc => ?_) (fun hc => ?_) | refine Zb (fun hc => ?_) (fun hc => ?_) | refine Zd ?_
    | refine Ze ?_ | refine Zf ?_ | refine Zg ?_ | refine Zh ?_ | refine Zi ?_ | refine Zj ?_ | refine Zk ?_ | refine Zl ?_ | refine Zm ?_ | refine Zn (fun hc => ?_) (fun hc => ?_) | refine Zo ?_ | refine ok_seq ?_ | refine ok_reg ?_
    | refine Zp ?_ | refine Zq ?_ | refine Zr (fun hc => ?_) (fun hc => ?_) | refine ok_block ?_ | refine ok_exit ?_ | refine ok_skip ?_ | refine ok_ret ?_ | refine x_normal_then ?_ | refine x_exit_here ?_ | refine Zs ?_ | refine Zv ?_
    | refine x_ret_then ?_ | refine x_ret_block ?_ | refine x_normal_block ?_ | refine Zt ?_ | refine Zu ?_
  refine ok_for (ι := Nat) (fun x => envL [(0, .d (.im (l.map eItm))), (1, .d (.im (l.map eItm))), (4, vb false), (5, vi x)]) (fun x => stL []) (fun x => x ≤ l.length) (fun x => l.length - x) 0 (Nat.zero_le _) (weak_mk rfl ⟨.refl _, .refl _, .refl _, .refl _, trivial⟩ trivial) (fun _ => Nat.le_refl _) ?_
  intro k i1
  rcases hx : l[k]? with _ | x
  · have hle := none_le hx
    have ek : decide ((k : Int) < (l.length : Int)) = false := decide_eq_false (by omega)
    repeat' first
      | refine Z1 ?_ | refine Z2 ?_ | refine Z3 ?_ | refine Z4 ?_ | refine Z5 ?_ | refine Z6 ?_ | refine Z7 ?_ | refine Z8 ?_ | refine Z9 ?_ | refine Za (fun hc => ?_) (fun hc => ?_) | refine Zb (fun hc => ?_) (fun hc => ?_) | refine Zd ?_
      | refine Ze ?_ | refine Zf ?_ | refine Zg ?_ | refine Zh ?_ | refine Zi ?_ | refine Zj ?_ | refine Zk ?_ | refine Zl ?_ | refine Zm ?_ | refine Zn (fun hc => ?_) (fun hc => ?_) | refine Zo ?_ | refine ok_seq ?_ | refine ok_reg ?_
      | refine Zp ?_ | refine Zq ?_ | refine Zr (fun hc => ?_) (fun hc => ?_) | refine ok_block ?_ | refine ok_exit ?_ | refine ok_skip ?_ | refine ok_ret ?_ | refine x_normal_then ?_ | refine x_exit_here ?_ | refine Zs ?_ | refine Zv ?_
      | refine x_ret_then ?_ | refine x_ret_block ?_ | refine x_normal_block ?_ | refine Zt ?_ | refine Zu ?_
    rfl
  · obtain ⟨hdr, hlt⟩ := drop_some hx
    have hwx := wL_mem (w := wItm) (List.mem_of_getElem? hx)
    have ek : decide ((k : Int) < (l.length : Int)) = true := decide_eq_true (by omega)
    repeat' first
      | refine Z1 ?_ | refine Z2 ?_ | refine Z3 ?_ | refine Z4 ?_ | refine Z5 ?_ | refine Z6 ?_ | refine Z7 ?_ | refine Z8 ?_ | refine Z9 ?_ | refine Za (fun hc => ?_) (fun hc => ?_) | refine Zb (fun hc => ?_) (fun hc => ?_)
      | refine Zc (eqItem_ok x (by omega)) ?_ | refine Zd ?_ | refine Ze ?_ | refine Zf ?_ | refine Zg ?_ | refine Zh ?_ | refine Zi ?_ | refine Zj ?_ | refine Zk ?_ | refine Zl ?_ | refine Zm ?_ | refine Zn (fun hc => ?_) (fun hc => ?_)
      | refine Zw ?_ | refine Zx ?_ | refine Zy ?_ | refine Zz (Zc (eqItem_ok x (by omega)) ⟨rfl, rfl⟩) ?_ | refine Zz (Zd ⟨rfl, rfl⟩) ?_ | refine Zz (Ze ⟨rfl, rfl⟩) ?_ | refine Zz (Zf ⟨rfl, rfl⟩) ?_ | refine Zz (Zg ⟨rfl, rfl⟩) ?_
      | refine Zz (Zh ⟨rfl, rfl⟩) ?_ | refine Zz (Zi ⟨rfl, rfl⟩) ?_ | refine Zz (Zj ⟨rfl, rfl⟩) ?_ | refine Zz (Zk ⟨rfl, rfl⟩) ?_ | refine Zz (Zl ⟨rfl, rfl⟩) ?_ | refine Zz (Zm ⟨rfl, rfl⟩) ?_ | refine Zo ?_ | refine ok_seq ?_
      | refine ok_reg ?_ | refine ok_draw X_mixed (by decide +kernel) ?_ | refine Zp ?_ | refine Zq ?_ | refine Zr (fun hc => ?_) (fun hc => ?_) | refine ok_block ?_ | refine ok_exit ?_ | refine ok_skip ?_ | refine ok_ret ?_
      | refine x_normal_then ?_ | refine x_exit_here ?_ | refine Zs ?_ | refine Zv ?_ | refine x_ret_then ?_ | refine x_ret_block ?_ | refine x_normal_block ?_ | refine Zt ?_ | refine Zu ?_
    exact ⟨k + 1, hlt, by (try simp only); omega, low_mk (Nat.zero_le _) ⟨⟨rfl, rfl⟩, ⟨rfl, rfl⟩, ⟨rfl, rfl⟩, ⟨rfl, rfl⟩, trivial⟩ trivial⟩

theorem toStringS_ok (l : List (ByteArray)) (hw : wL (wStr) l ≤ 1048576) : PFun X 62 [.d (.im (l.map eStr))] (.d (.im (l.map eStr))) := by
  simp only [wL] at hw
  refine pfun_of Tryd.func62 rfl (by decide) Tryd.ntmps62 Tryd.results62 (by simp) rfl rfl ?_
  repeat' first
    | refine Z1 ?_ | refine Z2 ?_ | refine Z3 ?_ | refine Z4 ?_ | refine Z5 ?_ | refine Z6 ?_ | refine Z7 ?_ | refine Z8 ?_ | refine Z9 ?_ | refine Za (fun hc => ?_) (fun hc => ?_) | refine Zb (fun hc => ?_) (fun hc => ?_)
    | refine op_make (k := l.length) rfl rfl (by omega) rfl rfl rfl rfl rfl rfl ?_ | refine Zd ?_ | refine Ze ?_ | refine Zf ?_ | refine Zg ?_ | refine Zh ?_ | refine Zi ?_ | refine Zj ?_ | refine Zk ?_ | refine Zl ?_ | refine Zm ?_
    | refine Zn (fun hc => ?_) (fun hc => ?_) | refine Zo ?_ | refine ok_seq ?_ | refine ok_reg ?_ | refine Zp ?_ | refine Zq ?_ | refine Zr (fun hc => ?_) (fun hc => ?_) | refine ok_block ?_ | refine ok_exit ?_ | refine ok_skip ?_
    | refine ok_ret ?_ | refine x_normal_then ?_ | refine x_exit_here ?_ | refine Zs ?_ | refine Zv ?_ | refine x_ret_then ?_ | refine x_ret_block ?_ | refine x_normal_block ?_ | refine Zt ?_ | refine Zu ?_
  refine ok_for (ι := Nat) (fun x => envL [(0, .d (.im (l.map eStr))), (3, .sl 0 0 0 l.length), (4, vi x)]) (fun x => stL [some (.row 0 9 1 (trk eStr l x [.d (.s (.string .empty))]))]) (fun x => x ≤ l.length) (fun x => l.length - x) 0 (Nat.zero_le _) (weak_mk rfl ⟨.refl _, .refl _, .refl _, trivial⟩ ⟨⟨rfl, _, rfl, rfl, rfl, rfl, rfl⟩, trivial⟩) (fun _ => Nat.le_refl _) ?_
  intro k i1
  rcases hx : l[k]? with _ | x
  · have hle := none_le hx
    have ek : decide ((k : Int) < (l.length : Int)) = false := decide_eq_false (by omega)
    repeat' first
      | refine Z1 ?_ | refine Z2 ?_ | refine Z3 ?_ | refine Z4 ?_ | refine Z5 ?_ | refine Z6 ?_ | refine Z7 ?_ | refine Z8 ?_ | refine Z9 ?_ | refine Za (fun hc => ?_) (fun hc => ?_) | refine Zb (fun hc => ?_) (fun hc => ?_) | refine Zd ?_
      | refine Ze ?_ | refine Zf ?_ | refine Zg ?_ | refine Zh ?_ | refine Zi ?_ | refine Zj ?_ | refine Zk ?_ | refine Zl ?_ | refine Zm ?_ | refine Zn (fun hc => ?_) (fun hc => ?_) | refine fz_rows (trk_all hle) 2 rfl rfl rfl ?_
      | refine Zo ?_ | refine ok_seq ?_ | refine ok_reg ?_ | refine Zp ?_ | refine Zq ?_ | refine Zr (fun hc => ?_) (fun hc => ?_) | refine ok_block ?_ | refine ok_exit ?_ | refine ok_skip ?_ | refine ok_ret ?_ | refine x_normal_then ?_
      | refine x_exit_here ?_ | refine Zs ?_ | refine Zv ?_ | refine x_ret_then ?_ | refine x_ret_block ?_ | refine x_normal_block ?_ | refine Zt ?_ | refine Zu ?_
    rfl
  · obtain ⟨hdr, hlt⟩ := drop_some hx
    have hwx := wL_mem (w := wStr) (List.mem_of_getElem? hx)
    have ek : decide ((k : Int) < (l.length : Int)) = true := decide_eq_true (by omega)
    repeat' first
      | refine Z1 ?_ | refine Z2 ?_ | refine Z3 ?_ | refine Z4 ?_ | refine Z5 ?_ | refine Z6 ?_ | refine Z7 ?_ | refine Z8 ?_ | refine Z9 ?_ | refine Za (fun hc => ?_) (fun hc => ?_) | refine Zb (fun hc => ?_) (fun hc => ?_)
      | refine op_place rfl rfl hlt rfl rfl rfl rfl ?_ | refine op_putk hx rfl rfl rfl rfl rfl rfl rfl rfl ?_ | refine Zd ?_ | refine Ze ?_ | refine Zf ?_ | refine Zg ?_ | refine Zh ?_ | refine Zi ?_ | refine Zj ?_ | refine Zk ?_
      | refine Zl ?_ | refine Zm ?_ | refine Zn (fun hc => ?_) (fun hc => ?_) | refine Zo ?_ | refine ok_seq ?_ | refine ok_reg ?_ | refine Zp ?_ | refine Zq ?_ | refine Zr (fun hc => ?_) (fun hc => ?_) | refine ok_block ?_
      | refine ok_exit ?_ | refine ok_skip ?_ | refine ok_ret ?_ | refine x_normal_then ?_ | refine x_exit_here ?_ | refine Zs ?_ | refine Zv ?_ | refine x_ret_then ?_ | refine x_ret_block ?_ | refine x_normal_block ?_ | refine Zt ?_
      | refine Zu ?_
    exact ⟨k + 1, hlt, by (try simp only); omega, low_mk (Nat.le_of_ble_eq_true rfl) ⟨⟨rfl, rfl⟩, ⟨rfl, rfl⟩, ⟨rfl, rfl⟩, trivial⟩ ⟨⟨rfl, blt_lt rfl, trk_low _ _ _ _ rfl⟩, trivial⟩⟩
theorem eqStringS_ok (l : List (ByteArray)) (hw : wL (wStr) l ≤ 1048576) : PFun X 66 [.d (.im (l.map eStr)), .d (.im (l.map eStr))] (vb true) := by
  have ht : (!true) = false := rfl
  simp only [wL] at hw
  have e0 : decide ((l.length : Int) ≠ (l.length : Int)) = false := decide_eq_false (fun h => h rfl)
  refine pfun_of Tryd.func66 rfl (by decide) Tryd.ntmps66 Tryd.results66 (by simp) rfl rfl ?_
  repeat' first
    | refine Z1 ?_ | refine Z2 ?_ | refine Z3 ?_ | refine Z4 ?_ | refine Z5 ?_ | refine Z6 ?_ | refine Z7 ?_ | refine Z8 ?_ | refine Z9 ?_ | refine Za (fun hc => ?_) (fun hc => ?_) | refine Zb (fun hc => ?_) (fun hc => ?_) | refine Zd ?_
    | refine Ze ?_ | refine Zf ?_ | refine Zg ?_ | refine Zh ?_ | refine Zi ?_ | refine Zj ?_ | refine Zk ?_ | refine Zl ?_ | refine Zm ?_ | refine Zn (fun hc => ?_) (fun hc => ?_) | refine Zo ?_ | refine ok_seq ?_ | refine ok_reg ?_
    | refine Zp ?_ | refine Zq ?_ | refine Zr (fun hc => ?_) (fun hc => ?_) | refine ok_block ?_ | refine ok_exit ?_ | refine ok_skip ?_ | refine ok_ret ?_ | refine x_normal_then ?_ | refine x_exit_here ?_ | refine Zs ?_ | refine Zv ?_
    | refine x_ret_then ?_ | refine x_ret_block ?_ | refine x_normal_block ?_ | refine Zt ?_ | refine Zu ?_
  refine ok_for (ι := Nat) (fun x => envL [(0, .d (.im (l.map eStr))), (1, .d (.im (l.map eStr))), (4, vb false), (5, vi x)]) (fun x => stL []) (fun x => x ≤ l.length) (fun x => l.length - x) 0 (Nat.zero_le _) (weak_mk rfl ⟨.refl _, .refl _, .refl _, .refl _, trivial⟩ trivial) (fun _ => Nat.le_refl _) ?_
  intro k i1
  rcases hx : l[k]? with _ | x
  · have hle := none_le hx
    have ek : decide ((k : Int) < (l.length : Int)) = false := decide_eq_false (by omega)
    repeat' first
      | refine Z1 ?_ | refine Z2 ?_ | refine Z3 ?_ | refine Z4 ?_ | refine Z5 ?_ | refine Z6 ?_ | refine Z7 ?_ | refine Z8 ?_ | refine Z9 ?_ | refine Za (fun hc => ?_) (fun hc => ?_) | refine Zb (fun hc => ?_) (fun hc => ?_) | refine Zd ?_
      | refine Ze ?_ | refine Zf ?_ | refine Zg ?_ | refine Zh ?_ | refine Zi ?_ | refine Zj ?_ | refine Zk ?_ | refine Zl ?_ | refine Zm ?_ | refine Zn (fun hc => ?_) (fun hc => ?_) | refine Zo ?_ | refine ok_seq ?_ | refine ok_reg ?_
      | refine Zp ?_ | refine Zq ?_ | refine Zr (fun hc => ?_) (fun hc => ?_) | refine ok_block ?_ | refine ok_exit ?_ | refine ok_skip ?_ | refine ok_ret ?_ | refine x_normal_then ?_ | refine x_exit_here ?_ | refine Zs ?_ | refine Zv ?_
      | refine x_ret_then ?_ | refine x_ret_block ?_ | refine x_normal_block ?_ | refine Zt ?_ | refine Zu ?_
    rfl
  · obtain ⟨hdr, hlt⟩ := drop_some hx
    have hwx := wL_mem (w := wStr) (List.mem_of_getElem? hx)
    have ek : decide ((k : Int) < (l.length : Int)) = true := decide_eq_true (by omega)
    have ee : decide (x ≠ x) = false := decide_eq_false (fun h => h rfl)
    repeat' first
      | refine Z1 ?_ | refine Z2 ?_ | refine Z3 ?_ | refine Z4 ?_ | refine Z5 ?_ | refine Z6 ?_ | refine Z7 ?_ | refine Z8 ?_ | refine Z9 ?_ | refine Za (fun hc => ?_) (fun hc => ?_) | refine Zb (fun hc => ?_) (fun hc => ?_) | refine Zd ?_
      | refine Ze ?_ | refine Zf ?_ | refine Zg ?_ | refine Zh ?_ | refine Zi ?_ | refine Zj ?_ | refine Zk ?_ | refine Zl ?_ | refine Zm ?_ | refine Zn (fun hc => ?_) (fun hc => ?_) | refine Zw ?_ | refine Zx ?_ | refine Zy ?_
      | refine Zz (Zd ⟨rfl, rfl⟩) ?_ | refine Zz (Ze ⟨rfl, rfl⟩) ?_ | refine Zz (Zf ⟨rfl, rfl⟩) ?_ | refine Zz (Zg ⟨rfl, rfl⟩) ?_ | refine Zz (Zh ⟨rfl, rfl⟩) ?_ | refine Zz (Zi ⟨rfl, rfl⟩) ?_ | refine Zz (Zj ⟨rfl, rfl⟩) ?_
      | refine Zz (Zk ⟨rfl, rfl⟩) ?_ | refine Zz (Zl ⟨rfl, rfl⟩) ?_ | refine Zz (Zm ⟨rfl, rfl⟩) ?_ | refine Zo ?_ | refine ok_seq ?_ | refine ok_reg ?_ | refine ok_draw X_mixed (by decide +kernel) ?_ | refine Zp ?_ | refine Zq ?_
      | refine Zr (fun hc => ?_) (fun hc => ?_) | refine ok_block ?_ | refine ok_exit ?_ | refine ok_skip ?_ | refine ok_ret ?_ | refine x_normal_then ?_ | refine x_exit_here ?_ | refine Zs ?_ | refine Zv ?_ | refine x_ret_then ?_
      | refine x_ret_block ?_ | refine x_normal_block ?_ | refine Zt ?_ | refine Zu ?_
    exact ⟨k + 1, hlt, by (try simp only); omega, low_mk (Nat.zero_le _) ⟨⟨rfl, rfl⟩, ⟨rfl, rfl⟩, ⟨rfl, rfl⟩, ⟨rfl, rfl⟩, trivial⟩ trivial⟩

theorem toItemSS_ok (l : List (List Itm)) (hw : wL (wL wItm) l ≤ 1048576) : PFun X 64 [.d (.im (l.map eItms))] (.d (.im (l.map eItms))) := by
  simp only [wL] at hw
  refine pfun_of Tryd.func64 rfl (by decide) Tryd.ntmps64 Tryd.results64 (by simp) rfl rfl ?_
  repeat' first
    | refine Z1 ?_ | refine Z2 ?_ | refine Z3 ?_ | refine Z4 ?_ | refine Z5 ?_ | refine Z6 ?_ | refine Z7 ?_ | refine Z8 ?_ | refine Z9 ?_ | refine Za (fun hc => ?_) (fun hc => ?_) | refine Zb (fun hc => ?_) (fun hc => ?_)
    | refine op_make (k := l.length) rfl rfl (by omega) rfl rfl rfl rfl rfl rfl ?_ | refine Zd ?_ | refine Ze ?_ | refine Zf ?_ | refine Zg ?_ | refine Zh ?_ | refine Zi ?_ | refine Zj ?_ | refine Zk ?_ | refine Zl ?_ | refine Zm ?_
    | refine Zn (fun hc => ?_) (fun hc => ?_) | refine Zo ?_ | refine ok_seq ?_ | refine ok_reg ?_ | refine Zp ?_ | refine Zq ?_ | refine Zr (fun hc => ?_) (fun hc => ?_) | refine ok_block ?_ | refine ok_exit ?_ | refine ok_skip ?_
    | refine ok_ret ?_ | refine x_normal_then ?_ | refine x_exit_here ?_ | refine Zs ?_ | refine Zv ?_ | refine x_ret_then ?_ | refine x_ret_block ?_ | refine x_normal_block ?_ | refine Zt ?_ | refine Zu ?_
  refine ok_for (ι := Nat) (fun x => envL [(0, .d (.im (l.map eItms))), (3, .sl 0 0 0 l.length), (4, vi x)]) (fun x => stL [some (.row 0 48 1 (trk eItms l x [.d (.s (.slice none 0 0))]))]) (fun x => x ≤ l.length) (fun x => l.length - x) 0 (Nat.zero_le _) (weak_mk rfl ⟨.refl _, .refl _, .refl _, trivial⟩ ⟨⟨rfl, _, rfl, rfl, rfl, rfl, rfl⟩, trivial⟩) (fun _ => Nat.le_refl _) ?_
  intro k i1
  rcases hx : l[k]? with _ | x
  · have hle := none_le hx
    have ek : decide ((k : Int) < (l.length : Int)) = false := decide_eq_false (by omega)
    repeat' first
      | refine Z1 ?_ | refine Z2 ?_ | refine Z3 ?_ | refine Z4 ?_ | refine Z5 ?_ | refine Z6 ?_ | refine Z7 ?_ | refine Z8 ?_ | refine Z9 ?_ | refine Za (fun hc => ?_) (fun hc => ?_) | refine Zb (fun hc => ?_) (fun hc => ?_) | refine Zd ?_
      | refine Ze ?_ | refine Zf ?_ | refine Zg ?_ | refine Zh ?_ | refine Zi ?_ | refine Zj ?_ | refine Zk ?_ | refine Zl ?_ | refine Zm ?_ | refine Zn (fun hc => ?_) (fun hc => ?_) | refine fz_rows (trk_all hle) 2 rfl rfl rfl ?_
      | refine Zo ?_ | refine ok_seq ?_ | refine ok_reg ?_ | refine Zp ?_ | refine Zq ?_ | refine Zr (fun hc => ?_) (fun hc => ?_) | refine ok_block ?_ | refine ok_exit ?_ | refine ok_skip ?_ | refine ok_ret ?_ | refine x_normal_then ?_
      | refine x_exit_here ?_ | refine Zs ?_ | refine Zv ?_ | refine x_ret_then ?_ | refine x_ret_block ?_ | refine x_normal_block ?_ | refine Zt ?_ | refine Zu ?_
    rfl
  · obtain ⟨hdr, hlt⟩ := drop_some hx
    have hwx := wL_mem (w := wL wItm) (List.mem_of_getElem? hx)
    have ek : decide ((k : Int) < (l.length : Int)) = true := decide_eq_true (by omega)
    repeat' first
      | refine Z1 ?_ | refine Z2 ?_ | refine Z3 ?_ | refine Z4 ?_ | refine Z5 ?_ | refine Z6 ?_ | refine Z7 ?_ | refine Z8 ?_ | refine Z9 ?_ | refine Za (fun hc => ?_) (fun hc => ?_) | refine Zb (fun hc => ?_) (fun hc => ?_)
      | refine op_place rfl rfl hlt rfl rfl rfl rfl ?_ | refine op_putk hx rfl rfl rfl rfl rfl rfl rfl rfl ?_ | refine Zc (toItemS_ok x (by omega)) ?_ | refine Zd ?_ | refine Ze ?_ | refine Zf ?_ | refine Zg ?_ | refine Zh ?_ | refine Zi ?_
      | refine Zj ?_ | refine Zk ?_ | refine Zl ?_ | refine Zm ?_ | refine Zn (fun hc => ?_) (fun hc => ?_) | refine Zo ?_ | refine ok_seq ?_ | refine ok_reg ?_ | refine Zp ?_ | refine Zq ?_ | refine Zr (fun hc => ?_) (fun hc => ?_)
      | refine ok_block ?_ | refine ok_exit ?_ | refine ok_skip ?_ | refine ok_ret ?_ | refine x_normal_then ?_ | refine x_exit_here ?_ | refine Zs ?_ | refine Zv ?_ | refine x_ret_then ?_ | refine x_ret_block ?_ | refine x_normal_block ?_
      | refine Zt ?_ | refine Zu ?_
    exact ⟨k + 1, hlt, by (try simp only); omega, low_mk (Nat.le_of_ble_eq_true rfl) ⟨⟨rfl, rfl⟩, ⟨rfl, rfl⟩, ⟨rfl, rfl⟩, trivial⟩ ⟨⟨rfl, blt_lt rfl, trk_low _ _ _ _ rfl⟩, trivial⟩⟩
theorem eqItemSS_ok (l : List (List Itm)) (hw : wL (wL wItm) l ≤ 1048576) : PFun X 68 [.d (.im (l.map eItms)), .d (.im (l.map eItms))] (vb true) := by
  have ht : (!true) = false := rfl
  simp only [wL] at hw
  have e0 : decide ((l.length : Int) ≠ (l.length : Int)) = false := decide_eq_false (fun h => h rfl)
  refine pfun_of Tryd.func68 rfl (by decide) Tryd.ntmps68 Tryd.results68 (by simp) rfl rfl ?_
  repeat' first
    | refine Z1 ?_ | refine Z2 ?_ | refine Z3 ?_ | refine Z4 ?_ | refine Z5 ?_ | refine Z6 ?_ | refine Z7 ?_ | refine Z8 ?_ | refine Z9 ?_ | refine Za (fun hc => ?_) (fun hc => ?_) | refine Zb (fun hc => ?_) (fun hc => ?_) | refine Zd ?_
    | refine Ze ?_ | refine Zf ?_ | refine Zg ?_ | refine Zh ?_ | refine Zi ?_ | refine Zj ?_ | refine Zk ?_ | refine Zl ?_ | refine Zm ?_ | refine Zn (fun hc => ?_) (fun hc => ?_) | refine Zo ?_ | refine ok_seq ?_ | refine ok_reg ?_
    | refine Zp ?_ | refine Zq ?_ | refine Zr (fun hc => ?_) (fun hc => ?_) | refine ok_block ?_ | refine ok_exit ?_ | refine ok_skip ?_ | refine ok_ret ?_ | refine x_normal_then ?_ | refine x_exit_here ?_ | refine Zs ?_ | refine Zv ?_
    | refine x_ret_then ?_ | refine x_ret_block ?_ | refine x_normal_block ?_ | refine Zt ?_ | refine Zu ?_
  refine ok_for (ι := Nat) (fun x => envL [(0, .d (.im (l.map eItms))), (1, .d (.im (l.map eItms))), (4, vb false), (5, vi x)]) (fun x => stL []) (fun x => x ≤ l.length) (fun x => l.length - x) 0 (Nat.zero_le _) (weak_mk rfl ⟨.refl _, .refl _, .refl _, .refl _, trivial⟩ trivial) (fun _ => Nat.le_refl _) ?_
  intro k i1
  rcases hx : l[k]? with _ | x
  · have hle := none_le hx
    have ek : decide ((k : Int) < (l.length : Int)) = false := decide_eq_false (by omega)
    repeat' first
      | refine Z1 ?_ | refine Z2 ?_ | refine Z3 ?_ | refine Z4 ?_ | refine Z5 ?_ | refine Z6 ?_ | refine Z7 ?_ | refine Z8 ?_ | refine Z9 ?_ | refine Za (fun hc => ?_) (fun hc => ?_) | refine Zb (fun hc => ?_) (fun hc => ?_) | refine Zd ?_
      | refine Ze ?_ | refine Zf ?_ | refine Zg ?_ | refine Zh ?_ | refine Zi ?_ | refine Zj ?_ | refine Zk ?_ | refine Zl ?_ | refine Zm ?_ | refine Zn (fun hc => ?_) (fun hc => ?_) | refine Zo ?_ | refine ok_seq ?_ | refine ok_reg ?_
      | refine Zp ?_ | refine Zq ?_ | refine Zr (fun hc => ?_) (fun hc => ?_) | refine ok_block ?_ | refine ok_exit ?_ | refine ok_skip ?_ | refine ok_ret ?_ | refine x_normal_then ?_ | refine x_exit_here ?_ | refine Zs ?_ | refine Zv ?_
      | refine x_ret_then ?_ | refine x_ret_block ?_ | refine x_normal_block ?_ | refine Zt ?_ | refine Zu ?_
    rfl
  · obtain ⟨hdr, hlt⟩ := drop_some hx
    have hwx := wL_mem (w := wL wItm) (List.mem_of_getElem? hx)
    have ek : decide ((k : Int) < (l.length : Int)) = true := decide_eq_true (by omega)
    repeat' first
      | refine Z1 ?_ | refine Z2 ?_ | refine Z3 ?_ | refine Z4 ?_ | refine Z5 ?_ | refine Z6 ?_ | refine Z7 ?_ | refine Z8 ?_ | refine Z9 ?_ | refine Za (fun hc => ?_) (fun hc => ?_) | refine Zb (fun hc => ?_) (fun hc => ?_)
      | refine Zc (eqItemS_ok x (by first | omega | (simp only [wL]; omega))) ?_ | refine Zd ?_ | refine Ze ?_ | refine Zf ?_ | refine Zg ?_ | refine Zh ?_ | refine Zi ?_ | refine Zj ?_ | refine Zk ?_ | refine Zl ?_ | refine Zm ?_
      | refine Zn (fun hc => ?_) (fun hc => ?_) | refine Zw ?_ | refine Zx ?_ | refine Zy ?_ | refine Zz (Zc (eqItemS_ok x (by first | omega | (simp only [wL]; omega))) ⟨rfl, rfl⟩) ?_ | refine Zz (Zd ⟨rfl, rfl⟩) ?_
      | refine Zz (Ze ⟨rfl, rfl⟩) ?_ | refine Zz (Zf ⟨rfl, rfl⟩) ?_ | refine Zz (Zg ⟨rfl, rfl⟩) ?_ | refine Zz (Zh ⟨rfl, rfl⟩) ?_ | refine Zz (Zi ⟨rfl, rfl⟩) ?_ | refine Zz (Zj ⟨rfl, rfl⟩) ?_ | refine Zz (Zk ⟨rfl, rfl⟩) ?_
      | refine Zz (Zl ⟨rfl, rfl⟩) ?_ | refine Zz (Zm ⟨rfl, rfl⟩) ?_ | refine Zo ?_ | refine ok_seq ?_ | refine ok_reg ?_ | refine ok_draw X_mixed (by decide +kernel) ?_ | refine Zp ?_ | refine Zq ?_ | refine Zr (fun hc => ?_) (fun hc => ?_)
      | refine ok_block ?_ | refine ok_exit ?_ | refine ok_skip ?_ | refine ok_ret ?_ | refine x_normal_then ?_ | refine x_exit_here ?_ | refine Zs ?_ | refine Zv ?_ | refine x_ret_then ?_ | refine x_ret_block ?_ | refine x_normal_block ?_
      | refine Zt ?_ | refine Zu ?_
    exact ⟨k + 1, hlt, by (try simp only); omega, low_mk (Nat.zero_le _) ⟨⟨rfl, rfl⟩, ⟨rfl, rfl⟩, ⟨rfl, rfl⟩, ⟨rfl, rfl⟩, trivial⟩ trivial⟩

theorem toVar_ok (x : Vr) (hw : wVr x ≤ 1048576) : PFun X 53 [.agg ((eVr x).map .d)] (.agg ((eVr x).map .d)) := by
  simp only [wVr, wL] at hw
  refine pfun_of Tryd.func53 rfl (by decide) Tryd.ntmps53 Tryd.results53 (by simp) rfl rfl ?_
  repeat' first
    | refine Z1 ?_ | refine Z2 ?_ | refine Z3 ?_ | refine Z4 ?_ | refine Z5 ?_ | refine Z6 ?_ | refine Z7 ?_ | refine Z8 ?_ | refine Z9 ?_ | refine Za (fun hc => ?_) (fun hc => ?_) | refine Zb (fun hc => ?_) (fun hc => ?_)
    | refine Zc (toCondS_ok x.clock (by simp only [wL]; omega)) ?_ | refine Zd ?_ | refine Ze ?_ | refine Zf ?_ | refine Zg ?_ | refine Zh ?_ | refine Zi ?_ | refine Zj ?_ | refine Zk ?_ | refine Zl ?_ | refine Zm ?_
    | refine Zn (fun hc => ?_) (fun hc => ?_) | refine Zo ?_ | refine ok_seq ?_ | refine ok_reg ?_ | refine Zp ?_ | refine Zq ?_ | refine Zr (fun hc => ?_) (fun hc => ?_) | refine ok_block ?_ | refine ok_exit ?_ | refine ok_skip ?_
    | refine ok_ret ?_ | refine x_normal_then ?_ | refine x_exit_here ?_ | refine Zs ?_ | refine Zv ?_ | refine x_ret_then ?_ | refine x_ret_block ?_ | refine x_normal_block ?_ | refine Zt ?_ | refine Zu ?_
  rfl
theorem eqVar_ok (x : Vr) (hw : wVr x ≤ 1048576) : PFun X 55 [.agg ((eVr x).map .d), .agg ((eVr x).map .d)] (vb true) := by
  simp only [wVr, wL] at hw
  have ht : (!true) = false := rfl
  have e0 : decide (x.name ≠ x.name) = false := decide_eq_false (fun h => h rfl)
  have e1 : decide (x.type ≠ x.type) = false := decide_eq_false (fun h => h rfl)
  refine pfun_of Tryd.func55 rfl (by decide) Tryd.ntmps55 Tryd.results55 (by simp) rfl rfl ?_
  repeat' first
    | refine Z1 ?_ | refine Z2 ?_ | refine Z3 ?_ | refine Z4 ?_ | refine Z5 ?_ | refine Z6 ?_ | refine Z7 ?_ | refine Z8 ?_ | refine Z9 ?_ | refine Za (fun hc => ?_) (fun hc => ?_) | refine Zb (fun hc => ?_) (fun hc => ?_)
    | refine Zc (eqCondS_ok x.clock (by first | omega | (simp only [wL]; omega))) ?_ | refine Zd ?_ | refine Ze ?_ | refine Zf ?_ | refine Zg ?_ | refine Zh ?_ | refine Zi ?_ | refine Zj ?_ | refine Zk ?_ | refine Zl ?_ | refine Zm ?_
    | refine Zn (fun hc => ?_) (fun hc => ?_) | refine Zo ?_ | refine ok_seq ?_ | refine ok_reg ?_ | refine Zp ?_ | refine Zq ?_ | refine Zr (fun hc => ?_) (fun hc => ?_) | refine ok_block ?_ | refine ok_exit ?_ | refine ok_skip ?_
    | refine ok_ret ?_ | refine x_normal_then ?_ | refine x_exit_here ?_ | refine Zs ?_ | refine Zv ?_ | refine x_ret_then ?_ | refine x_ret_block ?_ | refine x_normal_block ?_ | refine Zt ?_ | refine Zu ?_
  rfl

theorem toVarS_ok (l : List (Vr)) (hw : wL (wVr) l ≤ 1048576) : PFun X 44 [.d (.im (l.map eVr))] (.d (.im (l.map eVr))) := by
  simp only [wL] at hw
  refine pfun_of Tryd.func44 rfl (by decide) Tryd.ntmps44 Tryd.results44 (by simp) rfl rfl ?_
  repeat' first
    | refine Z1 ?_ | refine Z2 ?_ | refine Z3 ?_ | refine Z4 ?_ | refine Z5 ?_ | refine Z6 ?_ | refine Z7 ?_ | refine Z8 ?_ | refine Z9 ?_ | refine Za (fun hc => ?_) (fun hc => ?_) | refine Zb (fun hc => ?_) (fun hc => ?_)
    | refine op_make (k := l.length) rfl rfl (by omega) rfl rfl rfl rfl rfl rfl ?_ | refine Zd ?_ | refine Ze ?_ | refine Zf ?_ | refine Zg ?_ | refine Zh ?_ | refine Zi ?_ | refine Zj ?_ | refine Zk ?_ | refine Zl ?_ | refine Zm ?_
    | refine Zn (fun hc => ?_) (fun hc => ?_) | refine Zo ?_ | refine ok_seq ?_ | refine ok_reg ?_ | refine Zp ?_ | refine Zq ?_ | refine Zr (fun hc => ?_) (fun hc => ?_) | refine ok_block ?_ | refine ok_exit ?_ | refine ok_skip ?_
    | refine ok_ret ?_ | refine x_normal_then ?_ | refine x_exit_here ?_ | refine Zs ?_ | refine Zv ?_ | refine x_ret_then ?_ | refine x_ret_block ?_ | refine x_normal_block ?_ | refine Zt ?_ | refine Zu ?_
  refine ok_for (ι := Nat) (fun x => envL [(0, .d (.im (l.map eVr))), (3, .sl 0 0 0 l.length), (4, vi x)]) (fun x => stL [some (.row 0 44 3 (trk eVr l x [.d (.s (.string .empty)), .d (.s (.int .i64 0)), .d (.s (.slice none 0 0))]))]) (fun x => x ≤ l.length) (fun x => l.length - x) 0 (Nat.zero_le _) (weak_mk rfl ⟨.refl _, .refl _, .refl _, trivial⟩ ⟨⟨rfl, _, rfl, rfl, rfl, rfl, rfl⟩, trivial⟩) (fun _ => Nat.le_refl _) ?_
  intro k i1
  rcases hx : l[k]? with _ | x
  · have hle := none_le hx
    have ek : decide ((k : Int) < (l.length : Int)) = false := decide_eq_false (by omega)
    repeat' first
      | refine Z1 ?_ | refine Z2 ?_ | refine Z3 ?_ | refine Z4 ?_ | refine Z5 ?_ | refine Z6 ?_ | refine Z7 ?_ | refine Z8 ?_ | refine Z9 ?_ | refine Za (fun hc => ?_) (fun hc => ?_) | refine Zb (fun hc => ?_) (fun hc => ?_) | refine Zd ?_
      | refine Ze ?_ | refine Zf ?_ | refine Zg ?_ | refine Zh ?_ | refine Zi ?_ | refine Zj ?_ | refine Zk ?_ | refine Zl ?_ | refine Zm ?_ | refine Zn (fun hc => ?_) (fun hc => ?_) | refine fz_rows (trk_all hle) 2 rfl rfl rfl ?_
      | refine Zo ?_ | refine ok_seq ?_ | refine ok_reg ?_ | refine Zp ?_ | refine Zq ?_ | refine Zr (fun hc => ?_) (fun hc => ?_) | refine ok_block ?_ | refine ok_exit ?_ | refine ok_skip ?_ | refine ok_ret ?_ | refine x_normal_then ?_
      | refine x_exit_here ?_ | refine Zs ?_ | refine Zv ?_ | refine x_ret_then ?_ | refine x_ret_block ?_ | refine x_normal_block ?_ | refine Zt ?_ | refine Zu ?_
    rfl
  · obtain ⟨hdr, hlt⟩ := drop_some hx
    have hwx := wL_mem (w := wVr) (List.mem_of_getElem? hx)
    have ek : decide ((k : Int) < (l.length : Int)) = true := decide_eq_true (by omega)
    repeat' first
      | refine Z1 ?_ | refine Z2 ?_ | refine Z3 ?_ | refine Z4 ?_ | refine Z5 ?_ | refine Z6 ?_ | refine Z7 ?_ | refine Z8 ?_ | refine Z9 ?_ | refine Za (fun hc => ?_) (fun hc => ?_) | refine Zb (fun hc => ?_) (fun hc => ?_)
      | refine op_place rfl rfl hlt rfl rfl rfl rfl ?_ | refine op_putk hx rfl rfl rfl rfl rfl rfl rfl rfl ?_ | refine Zc (toVar_ok x (by omega)) ?_ | refine Zd ?_ | refine Ze ?_ | refine Zf ?_ | refine Zg ?_ | refine Zh ?_ | refine Zi ?_
      | refine Zj ?_ | refine Zk ?_ | refine Zl ?_ | refine Zm ?_ | refine Zn (fun hc => ?_) (fun hc => ?_) | refine Zo ?_ | refine ok_seq ?_ | refine ok_reg ?_ | refine Zp ?_ | refine Zq ?_ | refine Zr (fun hc => ?_) (fun hc => ?_)
      | refine ok_block ?_ | refine ok_exit ?_ | refine ok_skip ?_ | refine ok_ret ?_ | refine x_normal_then ?_ | refine x_exit_here ?_ | refine Zs ?_ | refine Zv ?_ | refine x_ret_then ?_ | refine x_ret_block ?_ | refine x_normal_block ?_
      | refine Zt ?_ | refine Zu ?_
    exact ⟨k + 1, hlt, by (try simp only); omega, low_mk (Nat.le_of_ble_eq_true rfl) ⟨⟨rfl, rfl⟩, ⟨rfl, rfl⟩, ⟨rfl, rfl⟩, trivial⟩ ⟨⟨rfl, blt_lt rfl, trk_low _ _ _ _ rfl⟩, trivial⟩⟩
theorem eqVarS_ok (l : List (Vr)) (hw : wL (wVr) l ≤ 1048576) : PFun X 47 [.d (.im (l.map eVr)), .d (.im (l.map eVr))] (vb true) := by
  have ht : (!true) = false := rfl
  simp only [wL] at hw
  have e0 : decide ((l.length : Int) ≠ (l.length : Int)) = false := decide_eq_false (fun h => h rfl)
  refine pfun_of Tryd.func47 rfl (by decide) Tryd.ntmps47 Tryd.results47 (by simp) rfl rfl ?_
  repeat' first
    | refine Z1 ?_ | refine Z2 ?_ | refine Z3 ?_ | refine Z4 ?_ | refine Z5 ?_ | refine Z6 ?_ | refine Z7 ?_ | refine Z8 ?_ | refine Z9 ?_ | refine Za (fun hc => ?_) (fun hc => ?_) | refine Zb (fun hc => ?_) (fun hc => ?_) | refine Zd ?_
    | refine Ze ?_ | refine Zf ?_ | refine Zg ?_ | refine Zh ?_ | refine Zi ?_ | refine Zj ?_ | refine Zk ?_ | refine Zl ?_ | refine Zm ?_ | refine Zn (fun hc => ?_) (fun hc => ?_) | refine Zo ?_ | refine ok_seq ?_ | refine ok_reg ?_
    | refine Zp ?_ | refine Zq ?_ | refine Zr (fun hc => ?_) (fun hc => ?_) | refine ok_block ?_ | refine ok_exit ?_ | refine ok_skip ?_ | refine ok_ret ?_ | refine x_normal_then ?_ | refine x_exit_here ?_ | refine Zs ?_ | refine Zv ?_
    | refine x_ret_then ?_ | refine x_ret_block ?_ | refine x_normal_block ?_ | refine Zt ?_ | refine Zu ?_
  refine ok_for (ι := Nat) (fun x => envL [(0, .d (.im (l.map eVr))), (1, .d (.im (l.map eVr))), (4, vb false), (5, vi x)]) (fun x => stL []) (fun x => x ≤ l.length) (fun x => l.length - x) 0 (Nat.zero_le _) (weak_mk rfl ⟨.refl _, .refl _, .refl _, .refl _, trivial⟩ trivial) (fun _ => Nat.le_refl _) ?_
  intro k i1
  rcases hx : l[k]? with _ | x
  · have hle := none_le hx
    have ek : decide ((k : Int) < (l.length : Int)) = false := decide_eq_false (by omega)
    repeat' first
      | refine Z1 ?_ | refine Z2 ?_ | refine Z3 ?_ | refine Z4 ?_ | refine Z5 ?_ | refine Z6 ?_ | refine Z7 ?_ | refine Z8 ?_ | refine Z9 ?_ | refine Za (fun hc => ?_) (fun hc => ?_) | refine Zb (fun hc => ?_) (fun hc => ?_) | refine Zd ?_
      | refine Ze ?_ | refine Zf ?_ | refine Zg ?_ | refine Zh ?_ | refine Zi ?_ | refine Zj ?_ | refine Zk ?_ | refine Zl ?_ | refine Zm ?_ | refine Zn (fun hc => ?_) (fun hc => ?_) | refine Zo ?_ | refine ok_seq ?_ | refine ok_reg ?_
      | refine Zp ?_ | refine Zq ?_ | refine Zr (fun hc => ?_) (fun hc => ?_) | refine ok_block ?_ | refine ok_exit ?_ | refine ok_skip ?_ | refine ok_ret ?_ | refine x_normal_then ?_ | refine x_exit_here ?_ | refine Zs ?_ | refine Zv ?_
      | refine x_ret_then ?_ | refine x_ret_block ?_ | refine x_normal_block ?_ | refine Zt ?_ | refine Zu ?_
    rfl
  · obtain ⟨hdr, hlt⟩ := drop_some hx
    have hwx := wL_mem (w := wVr) (List.mem_of_getElem? hx)
    have ek : decide ((k : Int) < (l.length : Int)) = true := decide_eq_true (by omega)
    repeat' first
      | refine Z1 ?_ | refine Z2 ?_ | refine Z3 ?_ | refine Z4 ?_ | refine Z5 ?_ | refine Z6 ?_ | refine Z7 ?_ | refine Z8 ?_ | refine Z9 ?_ | refine Za (fun hc => ?_) (fun hc => ?_) | refine Zb (fun hc => ?_) (fun hc => ?_)
      | refine Zc (eqVar_ok x (by omega)) ?_ | refine Zd ?_ | refine Ze ?_ | refine Zf ?_ | refine Zg ?_ | refine Zh ?_ | refine Zi ?_ | refine Zj ?_ | refine Zk ?_ | refine Zl ?_ | refine Zm ?_ | refine Zn (fun hc => ?_) (fun hc => ?_)
      | refine Zw ?_ | refine Zx ?_ | refine Zy ?_ | refine Zz (Zc (eqVar_ok x (by omega)) ⟨rfl, rfl⟩) ?_ | refine Zz (Zd ⟨rfl, rfl⟩) ?_ | refine Zz (Ze ⟨rfl, rfl⟩) ?_ | refine Zz (Zf ⟨rfl, rfl⟩) ?_ | refine Zz (Zg ⟨rfl, rfl⟩) ?_
      | refine Zz (Zh ⟨rfl, rfl⟩) ?_ | refine Zz (Zi ⟨rfl, rfl⟩) ?_ | refine Zz (Zj ⟨rfl, rfl⟩) ?_ | refine Zz (Zk ⟨rfl, rfl⟩) ?_ | refine Zz (Zl ⟨rfl, rfl⟩) ?_ | refine Zz (Zm ⟨rfl, rfl⟩) ?_ | refine Zo ?_ | refine ok_seq ?_
      | refine ok_reg ?_ | refine ok_draw X_mixed (by decide +kernel) ?_ | refine Zp ?_ | refine Zq ?_ | refine Zr (fun hc => ?_) (fun hc => ?_) | refine ok_block ?_ | refine ok_exit ?_ | refine ok_skip ?_ | refine ok_ret ?_
      | refine x_normal_then ?_ | refine x_exit_here ?_ | refine Zs ?_ | refine Zv ?_ | refine x_ret_then ?_ | refine x_ret_block ?_ | refine x_normal_block ?_ | refine Zt ?_ | refine Zu ?_
    exact ⟨k + 1, hlt, by (try simp only); omega, low_mk (Nat.zero_le _) ⟨⟨rfl, rfl⟩, ⟨rfl, rfl⟩, ⟨rfl, rfl⟩, ⟨rfl, rfl⟩, trivial⟩ trivial⟩

theorem toEquation_ok (x : Eqn) (hw : wEqn x ≤ 1048576) : PFun X 54 [.agg ((eEqn x).map .d)] (.agg ((eEqn x).map .d)) := by
  simp only [wEqn, wL] at hw
  refine pfun_of Tryd.func54 rfl (by decide) Tryd.ntmps54 Tryd.results54 (by simp) rfl rfl ?_
  repeat' first
    | refine Z1 ?_ | refine Z2 ?_ | refine Z3 ?_ | refine Z4 ?_ | refine Z5 ?_ | refine Z6 ?_ | refine Z7 ?_ | refine Z8 ?_ | refine Z9 ?_ | refine Za (fun hc => ?_) (fun hc => ?_) | refine Zb (fun hc => ?_) (fun hc => ?_)
    | refine Zc (toStringS_ok x.lhs (by simp only [wL]; omega)) ?_ | refine Zc (toItemS_ok x.code (by simp only [wL]; omega)) ?_ | refine Zc (toItemSS_ok x.args (by simp only [wL]; omega)) ?_ | refine Zd ?_ | refine Ze ?_ | refine Zf ?_
    | refine Zg ?_ | refine Zh ?_ | refine Zi ?_ | refine Zj ?_ | refine Zk ?_ | refine Zl ?_ | refine Zm ?_ | refine Zn (fun hc => ?_) (fun hc => ?_) | refine Zo ?_ | refine ok_seq ?_ | refine ok_reg ?_ | refine Zp ?_ | refine Zq ?_
    | refine Zr (fun hc => ?_) (fun hc => ?_) | refine ok_block ?_ | refine ok_exit ?_ | refine ok_skip ?_ | refine ok_ret ?_ | refine x_normal_then ?_ | refine x_exit_here ?_ | refine Zs ?_ | refine Zv ?_ | refine x_ret_then ?_
    | refine x_ret_block ?_ | refine x_normal_block ?_ | refine Zt ?_ | refine Zu ?_
  rfl
theorem eqEquation_ok (x : Eqn) (hw : wEqn x ≤ 1048576) : PFun X 56 [.agg ((eEqn x).map .d), .agg ((eEqn x).map .d)] (vb true) := by
  simp only [wEqn, wL] at hw
  have ht : (!true) = false := rfl
  have e0 : decide (x.call ≠ x.call) = false := decide_eq_false (fun h => h rfl)
  refine pfun_of Tryd.func56 rfl (by decide) Tryd.ntmps56 Tryd.results56 (by simp) rfl rfl ?_
  repeat' first
    | refine Z1 ?_ | refine Z2 ?_ | refine Z3 ?_ | refine Z4 ?_ | refine Z5 ?_ | refine Z6 ?_ | refine Z7 ?_ | refine Z8 ?_ | refine Z9 ?_ | refine Za (fun hc => ?_) (fun hc => ?_) | refine Zb (fun hc => ?_) (fun hc => ?_)
    | refine Zc (eqStringS_ok x.lhs (by first | omega | (simp only [wL]; omega))) ?_ | refine Zc (eqItemS_ok x.code (by first | omega | (simp only [wL]; omega))) ?_
    | refine Zc (eqItemSS_ok x.args (by first | omega | (simp only [wL]; omega))) ?_ | refine Zd ?_ | refine Ze ?_ | refine Zf ?_ | refine Zg ?_ | refine Zh ?_ | refine Zi ?_ | refine Zj ?_ | refine Zk ?_ | refine Zl ?_ | refine Zm ?_
    | refine Zn (fun hc => ?_) (fun hc => ?_) | refine Zo ?_ | refine ok_seq ?_ | refine ok_reg ?_ | refine Zp ?_ | refine Zq ?_ | refine Zr (fun hc => ?_) (fun hc => ?_) | refine ok_block ?_ | refine ok_exit ?_ | refine ok_skip ?_
    | refine ok_ret ?_ | refine x_normal_then ?_ | refine x_exit_here ?_ | refine Zs ?_ | refine Zv ?_ | refine x_ret_then ?_ | refine x_ret_block ?_ | refine x_normal_block ?_ | refine Zt ?_ | refine Zu ?_
  rfl

theorem toEquationS_ok (l : List (Eqn)) (hw : wL (wEqn) l ≤ 1048576) : PFun X 45 [.d (.im (l.map eEqn))] (.d (.im (l.map eEqn))) := by
  simp only [wL] at hw
  refine pfun_of Tryd.func45 rfl (by decide) Tryd.ntmps45 Tryd.results45 (by simp) rfl rfl ?_
  repeat' first
    | refine Z1 ?_ | refine Z2 ?_ | refine Z3 ?_ | refine Z4 ?_ | refine Z5 ?_ | refine Z6 ?_ | refine Z7 ?_ | refine Z8 ?_ | refine Z9 ?_ | refine Za (fun hc => ?_) (fun hc => ?_) | refine Zb (fun hc => ?_) (fun hc => ?_)
    | refine op_make (k := l.length) rfl rfl (by omega) rfl rfl rfl rfl rfl rfl ?_ | refine Zd ?_ | refine Ze ?_ | refine Zf ?_ | refine Zg ?_ | refine Zh ?_ | refine Zi ?_ | refine Zj ?_ | refine Zk ?_ | refine Zl ?_ | refine Zm ?_
    | refine Zn (fun hc => ?_) (fun hc => ?_) | refine Zo ?_ | refine ok_seq ?_ | refine ok_reg ?_ | refine Zp ?_ | refine Zq ?_ | refine Zr (fun hc => ?_) (fun hc => ?_) | refine ok_block ?_ | refine ok_exit ?_ | refine ok_skip ?_
    | refine ok_ret ?_ | refine x_normal_then ?_ | refine x_exit_here ?_ | refine Zs ?_ | refine Zv ?_ | refine x_ret_then ?_ | refine x_ret_block ?_ | refine x_normal_block ?_ | refine Zt ?_ | refine Zu ?_
  refine ok_for (ι := Nat) (fun x => envL [(0, .d (.im (l.map eEqn))), (3, .sl 0 0 0 l.length), (4, vi x)]) (fun x => stL [some (.row 0 51 4 (trk eEqn l x [.d (.s (.slice none 0 0)), .d (.s (.slice none 0 0)), .d (.s (.string .empty)), .d (.s (.slice none 0 0))]))]) (fun x => x ≤ l.length) (fun x => l.length - x) 0 (Nat.zero_le _) (weak_mk rfl ⟨.refl _, .refl _, .refl _, trivial⟩ ⟨⟨rfl, _, rfl, rfl, rfl, rfl, rfl⟩, trivial⟩) (fun _ => Nat.le_refl _) ?_
  intro k i1
  rcases hx : l[k]? with _ | x
  · have hle := none_le hx
    have ek : decide ((k : Int) < (l.length : Int)) = false := decide_eq_false (by omega)
    repeat' first
      | refine Z1 ?_ | refine Z2 ?_ | refine Z3 ?_ | refine Z4 ?_ | refine Z5 ?_ | refine Z6 ?_ | refine Z7 ?_ | refine Z8 ?_ | refine Z9 ?_ | refine Za (fun hc => ?_) (fun hc => ?_) | refine Zb (fun hc => ?_) (fun hc => ?_) | refine Zd ?_
      | refine Ze ?_ | refine Zf ?_ | refine Zg ?_ | refine Zh ?_ | refine Zi ?_ | refine Zj ?_ | refine Zk ?_ | refine Zl ?_ | refine Zm ?_ | refine Zn (fun hc => ?_) (fun hc => ?_) | refine fz_rows (trk_all hle) 2 rfl rfl rfl ?_
      | refine Zo ?_ | refine ok_seq ?_ | refine ok_reg ?_ | refine Zp ?_ | refine Zq ?_ | refine Zr (fun hc => ?_) (fun hc => ?_) | refine ok_block ?_ | refine ok_exit ?_ | refine ok_skip ?_ | refine ok_ret ?_ | refine x_normal_then ?_
      | refine x_exit_here ?_ | refine Zs ?_ | refine Zv ?_ | refine x_ret_then ?_ | refine x_ret_block ?_ | refine x_normal_block ?_ | refine Zt ?_ | refine Zu ?_
    rfl
  · obtain ⟨hdr, hlt⟩ := drop_some hx
    have hwx := wL_mem (w := wEqn) (List.mem_of_getElem? hx)
    have ek : decide ((k : Int) < (l.length : Int)) = true := decide_eq_true (by omega)
    repeat' first
      | refine Z1 ?_ | refine Z2 ?_ | refine Z3 ?_ | refine Z4 ?_ | refine Z5 ?_ | refine Z6 ?_ | refine Z7 ?_ | refine Z8 ?_ | refine Z9 ?_ | refine Za (fun hc => ?_) (fun hc => ?_) | refine Zb (fun hc => ?_) (fun hc => ?_)
      | refine op_place rfl rfl hlt rfl rfl rfl rfl ?_ | refine op_putk hx rfl rfl rfl rfl rfl rfl rfl rfl ?_ | refine Zc (toEquation_ok x (by omega)) ?_ | refine Zd ?_ | refine Ze ?_ | refine Zf ?_ | refine Zg ?_ | refine Zh ?_
      | refine Zi ?_ | refine Zj ?_ | refine Zk ?_ | refine Zl ?_ | refine Zm ?_ | refine Zn (fun hc => ?_) (fun hc => ?_) | refine Zo ?_ | refine ok_seq ?_ | refine ok_reg ?_ | refine Zp ?_ | refine Zq ?_
      | refine Zr (fun hc => ?_) (fun hc => ?_) | refine ok_block ?_ | refine ok_exit ?_ | refine ok_skip ?_ | refine ok_ret ?_ | refine x_normal_then ?_ | refine x_exit_here ?_ | refine Zs ?_ | refine Zv ?_ | refine x_ret_then ?_
      | refine x_ret_block ?_ | refine x_normal_block ?_ | refine Zt ?_ | refine Zu ?_
    exact ⟨k + 1, hlt, by (try simp only); omega, low_mk (Nat.le_of_ble_eq_true rfl) ⟨⟨rfl, rfl⟩, ⟨rfl, rfl⟩, ⟨rfl, rfl⟩, trivial⟩ ⟨⟨rfl, blt_lt rfl, trk_low _ _ _ _ rfl⟩, trivial⟩⟩
theorem eqEquationS_ok (l : List (Eqn)) (hw : wL (wEqn) l ≤ 1048576) : PFun X 48 [.d (.im (l.map eEqn)), .d (.im (l.map eEqn))] (vb true) := by
  have ht : (!true) = false := rfl
  simp only [wL] at hw
  have e0 : decide ((l.length : Int) ≠ (l.length : Int)) = false := decide_eq_false (fun h => h rfl)
  refine pfun_of Tryd.func48 rfl (by decide) Tryd.ntmps48 Tryd.results48 (by simp) rfl rfl ?_
  repeat' first
    | refine Z1 ?_ | refine Z2 ?_ | refine Z3 ?_ | refine Z4 ?_ | refine Z5 ?_ | refine Z6 ?_ | refine Z7 ?_ | refine Z8 ?_ | refine Z9 ?_ | refine Za (fun hc => ?_) (fun hc => ?_) | refine Zb (fun hc => ?_) (fun hc => ?_) | refine Zd ?_
    | refine Ze ?_ | refine Zf ?_ | refine Zg ?_ | refine Zh ?_ | refine Zi ?_ | refine Zj ?_ | refine Zk ?_ | refine Zl ?_ | refine Zm ?_ | refine Zn (fun hc => ?_) (fun hc => ?_) | refine Zo ?_ | refine ok_seq ?_ | refine ok_reg ?_
    | refine Zp ?_ | refine Zq ?_ | refine Zr (fun hc => ?_) (fun hc => ?_) | refine ok_block ?_ | refine ok_exit ?_ | refine ok_skip ?_ | refine ok_ret ?_ | refine x_normal_then ?_ | refine x_exit_here ?_ | refine Zs ?_ | refine Zv ?_
    | refine x_ret_then ?_ | refine x_ret_block ?_ | refine x_normal_block ?_ | refine Zt ?_ | refine Zu ?_
  refine ok_for (ι := Nat) (fun x => envL [(0, .d (.im (l.map eEqn))), (1, .d (.im (l.map eEqn))), (4, vb false), (5, vi x)]) (fun x => stL []) (fun x => x ≤ l.length) (fun x => l.length - x) 0 (Nat.zero_le _) (weak_mk rfl ⟨.refl _, .refl _, .refl _, .refl _, trivial⟩ trivial) (fun _ => Nat.le_refl _) ?_
  intro k i1
  rcases hx : l[k]? with _ | x
  · have hle := none_le hx
    have ek : decide ((k : Int) < (l.length : Int)) = false := decide_eq_false (by omega)
    repeat' first
      | refine Z1 ?_ | refine Z2 ?_ | refine Z3 ?_ | refine Z4 ?_ | refine Z5 ?_ | refine Z6 ?_ | refine Z7 ?_ | refine Z8 ?_ | refine Z9 ?_ | refine Za (fun hc => ?_) (fun hc => ?_) | refine Zb (fun hc => ?_) (fun hc => ?_) | refine Zd ?_
      | refine Ze ?_ | refine Zf ?_ | refine Zg ?_ | refine Zh ?_ | refine Zi ?_ | refine Zj ?_ | refine Zk ?_ | refine Zl ?_ | refine Zm ?_ | refine Zn (fun hc => ?_) (fun hc => ?_) | refine Zo ?_ | refine ok_seq ?_ | refine ok_reg ?_
      | refine Zp ?_ | refine Zq ?_ | refine Zr (fun hc => ?_) (fun hc => ?_) | refine ok_block ?_ | refine ok_exit ?_ | refine ok_skip ?_ | refine ok_ret ?_ | refine x_normal_then ?_ | refine x_exit_here ?_ | refine Zs ?_ | refine Zv ?_
      | refine x_ret_then ?_ | refine x_ret_block ?_ | refine x_normal_block ?_ | refine Zt ?_ | refine Zu ?_
    rfl
  · obtain ⟨hdr, hlt⟩ := drop_some hx
    have hwx := wL_mem (w := wEqn) (List.mem_of_getElem? hx)
    have ek : decide ((k : Int) < (l.length : Int)) = true := decide_eq_true (by omega)
    repeat' first
      | refine Z1 ?_ | refine Z2 ?_ | refine Z3 ?_ | refine Z4 ?_ | refine Z5 ?_ | refine Z6 ?_ | refine Z7 ?_ | refine Z8 ?_ | refine Z9 ?_ | refine Za (fun hc => ?_) (fun hc => ?_) | refine Zb (fun hc => ?_) (fun hc => ?_)
      | refine Zc (eqEquation_ok x (by omega)) ?_ | refine Zd ?_ | refine Ze ?_ | refine Zf ?_ | refine Zg ?_ | refine Zh ?_ | refine Zi ?_ | refine Zj ?_ | refine Zk ?_ | refine Zl ?_ | refine Zm ?_
      | refine Zn (fun hc => ?_) (fun hc => ?_) | refine Zw ?_ | refine Zx ?_ | refine Zy ?_ | refine Zz (Zc (eqEquation_ok x (by omega)) ⟨rfl, rfl⟩) ?_ | refine Zz (Zd ⟨rfl, rfl⟩) ?_ | refine Zz (Ze ⟨rfl, rfl⟩) ?_
      | refine Zz (Zf ⟨rfl, rfl⟩) ?_ | refine Zz (Zg ⟨rfl, rfl⟩) ?_ | refine Zz (Zh ⟨rfl, rfl⟩) ?_ | refine Zz (Zi ⟨rfl, rfl⟩) ?_ | refine Zz (Zj ⟨rfl, rfl⟩) ?_ | refine Zz (Zk ⟨rfl, rfl⟩) ?_ | refine Zz (Zl ⟨rfl, rfl⟩) ?_
      | refine Zz (Zm ⟨rfl, rfl⟩) ?_ | refine Zo ?_ | refine ok_seq ?_ | refine ok_reg ?_ | refine ok_draw X_mixed (by decide +kernel) ?_ | refine Zp ?_ | refine Zq ?_ | refine Zr (fun hc => ?_) (fun hc => ?_) | refine ok_block ?_
      | refine ok_exit ?_ | refine ok_skip ?_ | refine ok_ret ?_ | refine x_normal_then ?_ | refine x_exit_here ?_ | refine Zs ?_ | refine Zv ?_ | refine x_ret_then ?_ | refine x_ret_block ?_ | refine x_normal_block ?_ | refine Zt ?_
      | refine Zu ?_
    exact ⟨k + 1, hlt, by (try simp only); omega, low_mk (Nat.zero_le _) ⟨⟨rfl, rfl⟩, ⟨rfl, rfl⟩, ⟨rfl, rfl⟩, ⟨rfl, rfl⟩, trivial⟩ trivial⟩

theorem toNode_ok (x : Nod) (hw : wNod x ≤ 1048576) : PFun X 26 [.agg ((eNod x).map .d)] (.agg ((eNod x).map .d)) := by
  simp only [wNod, wL] at hw
  refine pfun_of Tryd.func26 rfl (by decide) Tryd.ntmps26 Tryd.results26 (by simp) rfl rfl ?_
  repeat' first
    | refine Z1 ?_ | refine Z2 ?_ | refine Z3 ?_ | refine Z4 ?_ | refine Z5 ?_ | refine Z6 ?_ | refine Z7 ?_ | refine Z8 ?_ | refine Z9 ?_ | refine Za (fun hc => ?_) (fun hc => ?_) | refine Zb (fun hc => ?_) (fun hc => ?_)
    | refine Zc (toVarS_ok x.ins (by simp only [wL]; omega)) ?_ | refine Zc (toVarS_ok x.outs (by simp only [wL]; omega)) ?_ | refine Zc (toVarS_ok x.vars (by simp only [wL]; omega)) ?_
    | refine Zc (toEquationS_ok x.eqs (by simp only [wL]; omega)) ?_ | refine Zd ?_ | refine Ze ?_ | refine Zf ?_ | refine Zg ?_ | refine Zh ?_ | refine Zi ?_ | refine Zj ?_ | refine Zk ?_ | refine Zl ?_ | refine Zm ?_
    | refine Zn (fun hc => ?_) (fun hc => ?_) | refine Zo ?_ | refine ok_seq ?_ | refine ok_reg ?_ | refine Zp ?_ | refine Zq ?_ | refine Zr (fun hc => ?_) (fun hc => ?_) | refine ok_block ?_ | refine ok_exit ?_ | refine ok_skip ?_
    | refine ok_ret ?_ | refine x_normal_then ?_ | refine x_exit_here ?_ | refine Zs ?_ | refine Zv ?_ | refine x_ret_then ?_ | refine x_ret_block ?_ | refine x_normal_block ?_ | refine Zt ?_ | refine Zu ?_
  rfl
theorem eqNode_ok (x : Nod) (hw : wNod x ≤ 1048576) : PFun X 31 [.agg ((eNod x).map .d), .agg ((eNod x).map .d)] (vb true) := by
  simp only [wNod, wL] at hw
  have ht : (!true) = false := rfl
  have e0 : decide (x.name ≠ x.name) = false := decide_eq_false (fun h => h rfl)
  refine pfun_of Tryd.func31 rfl (by decide) Tryd.ntmps31 Tryd.results31 (by simp) rfl rfl ?_
  repeat' first
    | refine Z1 ?_ | refine Z2 ?_ | refine Z3 ?_ | refine Z4 ?_ | refine Z5 ?_ | refine Z6 ?_ | refine Z7 ?_ | refine Z8 ?_ | refine Z9 ?_ | refine Za (fun hc => ?_) (fun hc => ?_) | refine Zb (fun hc => ?_) (fun hc => ?_)
    | refine Zc (eqVarS_ok x.ins (by first | omega | (simp only [wL]; omega))) ?_ | refine Zc (eqVarS_ok x.outs (by first | omega | (simp only [wL]; omega))) ?_ | refine Zc (eqVarS_ok x.vars (by first | omega | (simp only [wL]; omega))) ?_
    | refine Zc (eqEquationS_ok x.eqs (by first | omega | (simp only [wL]; omega))) ?_ | refine Zd ?_ | refine Ze ?_ | refine Zf ?_ | refine Zg ?_ | refine Zh ?_ | refine Zi ?_ | refine Zj ?_ | refine Zk ?_ | refine Zl ?_ | refine Zm ?_
    | refine Zn (fun hc => ?_) (fun hc => ?_) | refine Zo ?_ | refine ok_seq ?_ | refine ok_reg ?_ | refine Zp ?_ | refine Zq ?_ | refine Zr (fun hc => ?_) (fun hc => ?_) | refine ok_block ?_ | refine ok_exit ?_ | refine ok_skip ?_
    | refine ok_ret ?_ | refine x_normal_then ?_ | refine x_exit_here ?_ | refine Zs ?_ | refine Zv ?_ | refine x_ret_then ?_ | refine x_ret_block ?_ | refine x_normal_block ?_ | refine Zt ?_ | refine Zu ?_
  rfl

theorem toNodeS_ok (l : List (Nod)) (hw : wL (wNod) l ≤ 1048576) : PFun X 16 [.d (.im (l.map eNod))] (.d (.im (l.map eNod))) := by
  simp only [wL] at hw
  refine pfun_of Tryd.func16 rfl (by decide) Tryd.ntmps16 Tryd.results16 (by simp) rfl rfl ?_
  repeat' first
    | refine Z1 ?_ | refine Z2 ?_ | refine Z3 ?_ | refine Z4 ?_ | refine Z5 ?_ | refine Z6 ?_ | refine Z7 ?_ | refine Z8 ?_ | refine Z9 ?_ | refine Za (fun hc => ?_) (fun hc => ?_) | refine Zb (fun hc => ?_) (fun hc => ?_)
    | refine op_make (k := l.length) rfl rfl (by omega) rfl rfl rfl rfl rfl rfl ?_ | refine Zd ?_ | refine Ze ?_ | refine Zf ?_ | refine Zg ?_ | refine Zh ?_ | refine Zi ?_ | refine Zj ?_ | refine Zk ?_ | refine Zl ?_ | refine Zm ?_
    | refine Zn (fun hc => ?_) (fun hc => ?_) | refine Zo ?_ | refine ok_seq ?_ | refine ok_reg ?_ | refine Zp ?_ | refine Zq ?_ | refine Zr (fun hc => ?_) (fun hc => ?_) | refine ok_block ?_ | refine ok_exit ?_ | refine ok_skip ?_
    | refine ok_ret ?_ | refine x_normal_then ?_ | refine x_exit_here ?_ | refine Zs ?_ | refine Zv ?_ | refine x_ret_then ?_ | refine x_ret_block ?_ | refine x_normal_block ?_ | refine Zt ?_ | refine Zu ?_
  refine ok_for (ι := Nat) (fun x => envL [(0, .d (.im (l.map eNod))), (3, .sl 0 0 0 l.length), (4, vi x)]) (fun x => stL [some (.row 0 39 5 (trk eNod l x [.d (.s (.string .empty)), .d (.s (.slice none 0 0)), .d (.s (.slice none 0 0)), .d (.s (.slice none 0 0)), .d (.s (.slice none 0 0))]))]) (fun x => x ≤ l.length) (fun x => l.length - x) 0 (Nat.zero_le _) (weak_mk rfl ⟨.refl _, .refl _, .refl _, trivial⟩ ⟨⟨rfl, _, rfl, rfl, rfl, rfl, rfl⟩, trivial⟩) (fun _ => Nat.le_refl _) ?_
  intro k i1
  rcases hx : l[k]? with _ | x
  · have hle := none_le hx
    have ek : decide ((k : Int) < (l.length : Int)) = false := decide_eq_false (by omega)
    repeat' first
      | refine Z1 ?_ | refine Z2 ?_ | refine Z3 ?_ | refine Z4 ?_ | refine Z5 ?_ | refine Z6 ?_ | refine Z7 ?_ | refine Z8 ?_ | refine Z9 ?_ | refine Za (fun hc => ?_) (fun hc => ?_) | refine Zb (fun hc => ?_) (fun hc => ?_) | refine Zd ?_
      | refine Ze ?_ | refine Zf ?_ | refine Zg ?_ | refine Zh ?_ | refine Zi ?_ | refine Zj ?_ | refine Zk ?_ | refine Zl ?_ | refine Zm ?_ | refine Zn (fun hc => ?_) (fun hc => ?_) | refine fz_rows (trk_all hle) 2 rfl rfl rfl ?_
      | refine Zo ?_ | refine ok_seq ?_ | refine ok_reg ?_ | refine Zp ?_ | refine Zq ?_ | refine Zr (fun hc => ?_) (fun hc => ?_) | refine ok_block ?_ | refine ok_exit ?_ | refine ok_skip ?_ | refine ok_ret ?_ | refine x_normal_then ?_
      | refine x_exit_here ?_ | refine Zs ?_ | refine Zv ?_ | refine x_ret_then ?_ | refine x_ret_block ?_ | refine x_normal_block ?_ | refine Zt ?_ | refine Zu ?_
    rfl
  · obtain ⟨hdr, hlt⟩ := drop_some hx
    have hwx := wL_mem (w := wNod) (List.mem_of_getElem? hx)
    have ek : decide ((k : Int) < (l.length : Int)) = true := decide_eq_true (by omega)
    repeat' first
      | refine Z1 ?_ | refine Z2 ?_ | refine Z3 ?_ | refine Z4 ?_ | refine Z5 ?_ | refine Z6 ?_ | refine Z7 ?_ | refine Z8 ?_ | refine Z9 ?_ | refine Za (fun hc => ?_) (fun hc => ?_) | refine Zb (fun hc => ?_) (fun hc => ?_)
      | refine op_place rfl rfl hlt rfl rfl rfl rfl ?_ | refine op_putk hx rfl rfl rfl rfl rfl rfl rfl rfl ?_ | refine Zc (toNode_ok x (by omega)) ?_ | refine Zd ?_ | refine Ze ?_ | refine Zf ?_ | refine Zg ?_ | refine Zh ?_ | refine Zi ?_
      | refine Zj ?_ | refine Zk ?_ | refine Zl ?_ | refine Zm ?_ | refine Zn (fun hc => ?_) (fun hc => ?_) | refine Zo ?_ | refine ok_seq ?_ | refine ok_reg ?_ | refine Zp ?_ | refine Zq ?_ | refine Zr (fun hc => ?_) (fun hc => ?_)
      | refine ok_block ?_ | refine ok_exit ?_ | refine ok_skip ?_ | refine ok_ret ?_ | refine x_normal_then ?_ | refine x_exit_here ?_ | refine Zs ?_ | refine Zv ?_ | refine x_ret_then ?_ | refine x_ret_block ?_ | refine x_normal_block ?_
      | refine Zt ?_ | refine Zu ?_
    exact ⟨k + 1, hlt, by (try simp only); omega, low_mk (Nat.le_of_ble_eq_true rfl) ⟨⟨rfl, rfl⟩, ⟨rfl, rfl⟩, ⟨rfl, rfl⟩, trivial⟩ ⟨⟨rfl, blt_lt rfl, trk_low _ _ _ _ rfl⟩, trivial⟩⟩
theorem eqNodeS_ok (l : List (Nod)) (hw : wL (wNod) l ≤ 1048576) : PFun X 19 [.d (.im (l.map eNod)), .d (.im (l.map eNod))] (vb true) := by
  have ht : (!true) = false := rfl
  simp only [wL] at hw
  have e0 : decide ((l.length : Int) ≠ (l.length : Int)) = false := decide_eq_false (fun h => h rfl)
  refine pfun_of Tryd.func19 rfl (by decide) Tryd.ntmps19 Tryd.results19 (by simp) rfl rfl ?_
  repeat' first
    | refine Z1 ?_ | refine Z2 ?_ | refine Z3 ?_ | refine Z4 ?_ | refine Z5 ?_ | refine Z6 ?_ | refine Z7 ?_ | refine Z8 ?_ | refine Z9 ?_ | refine Za (fun hc => ?_) (fun hc => ?_) | refine Zb (fun hc => ?_) (fun hc => ?_) | refine Zd ?_
    | refine Ze ?_ | refine Zf ?_ | refine Zg ?_ | refine Zh ?_ | refine Zi ?_ | refine Zj ?_ | refine Zk ?_ | refine Zl ?_ | refine Zm ?_ | refine Zn (fun hc => ?_) (fun hc => ?_) | refine Zo ?_ | refine ok_seq ?_ | refine ok_reg ?_
    | refine Zp ?_ | refine Zq ?_ | refine Zr (fun hc => ?_) (fun hc => ?_) | refine ok_block ?_ | refine ok_exit ?_ | refine ok_skip ?_ | refine ok_ret ?_ | refine x_normal_then ?_ | refine x_exit_here ?_ | refine Zs ?_ | refine Zv ?_
    | refine x_ret_then ?_ | refine x_ret_block ?_ | refine x_normal_block ?_ | refine Zt ?_ | refine Zu ?_
  refine ok_for (ι := Nat) (fun x => envL [(0, .d (.im (l.map eNod))), (1, .d (.im (l.map eNod))), (4, vb false), (5, vi x)]) (fun x => stL []) (fun x => x ≤ l.length) (fun x => l.length - x) 0 (Nat.zero_le _) (weak_mk rfl ⟨.refl _, .refl _, .refl _, .refl _, trivial⟩ trivial) (fun _ => Nat.le_refl _) ?_
  intro k i1
  rcases hx : l[k]? with _ | x
  · have hle := none_le hx
    have ek : decide ((k : Int) < (l.length : Int)) = false := decide_eq_false (by omega)
    repeat' first
      | refine Z1 ?_ | refine Z2 ?_ | refine Z3 ?_ | refine Z4 ?_ | refine Z5 ?_ | refine Z6 ?_ | refine Z7 ?_ | refine Z8 ?_ | refine Z9 ?_ | refine Za (fun hc => ?_) (fun hc => ?_) | refine Zb (fun hc => ?_) (fun hc => ?_) | refine Zd ?_
      | refine Ze ?_ | refine Zf ?_ | refine Zg ?_ | refine Zh ?_ | refine Zi ?_ | refine Zj ?_ | refine Zk ?_ | refine Zl ?_ | refine Zm ?_ | refine Zn (fun hc => ?_) (fun hc => ?_) | refine Zo ?_ | refine ok_seq ?_ | refine ok_reg ?_
      | refine Zp ?_ | refine Zq ?_ | refine Zr (fun hc => ?_) (fun hc => ?_) | refine ok_block ?_ | refine ok_exit ?_ | refine ok_skip ?_ | refine ok_ret ?_ | refine x_normal_then ?_ | refine x_exit_here ?_ | refine Zs ?_ | refine Zv ?_
      | refine x_ret_then ?_ | refine x_ret_block ?_ | refine x_normal_block ?_ | refine Zt ?_ | refine Zu ?_
    rfl
  · obtain ⟨hdr, hlt⟩ := drop_some hx
    have hwx := wL_mem (w := wNod) (List.mem_of_getElem? hx)
    have ek : decide ((k : Int) < (l.length : Int)) = true := decide_eq_true (by omega)
    repeat' first
      | refine Z1 ?_ | refine Z2 ?_ | refine Z3 ?_ | refine Z4 ?_ | refine Z5 ?_ | refine Z6 ?_ | refine Z7 ?_ | refine Z8 ?_ | refine Z9 ?_ | refine Za (fun hc => ?_) (fun hc => ?_) | refine Zb (fun hc => ?_) (fun hc => ?_)
      | refine Zc (eqNode_ok x (by omega)) ?_ | refine Zd ?_ | refine Ze ?_ | refine Zf ?_ | refine Zg ?_ | refine Zh ?_ | refine Zi ?_ | refine Zj ?_ | refine Zk ?_ | refine Zl ?_ | refine Zm ?_ | refine Zn (fun hc => ?_) (fun hc => ?_)
      | refine Zw ?_ | refine Zx ?_ | refine Zy ?_ | refine Zz (Zc (eqNode_ok x (by omega)) ⟨rfl, rfl⟩) ?_ | refine Zz (Zd ⟨rfl, rfl⟩) ?_ | refine Zz (Ze ⟨rfl, rfl⟩) ?_ | refine Zz (Zf ⟨rfl, rfl⟩) ?_ | refine Zz (Zg ⟨rfl, rfl⟩) ?_
      | refine Zz (Zh ⟨rfl, rfl⟩) ?_ | refine Zz (Zi ⟨rfl, rfl⟩) ?_ | refine Zz (Zj ⟨rfl, rfl⟩) ?_ | refine Zz (Zk ⟨rfl, rfl⟩) ?_ | refine Zz (Zl ⟨rfl, rfl⟩) ?_ | refine Zz (Zm ⟨rfl, rfl⟩) ?_ | refine Zo ?_ | refine ok_seq ?_
      | refine ok_reg ?_ | refine ok_draw X_mixed (by decide +kernel) ?_ | refine Zp ?_ | refine Zq ?_ | refine Zr (fun hc => ?_) (fun hc => ?_) | refine ok_block ?_ | refine ok_exit ?_ | refine ok_skip ?_ | refine ok_ret ?_
      | refine x_normal_then ?_ | refine x_exit_here ?_ | refine Zs ?_ | refine Zv ?_ | refine x_ret_then ?_ | refine x_ret_block ?_ | refine x_normal_block ?_ | refine Zt ?_ | refine Zu ?_
    exact ⟨k + 1, hlt, by (try simp only); omega, low_mk (Nat.zero_le _) ⟨⟨rfl, rfl⟩, ⟨rfl, rfl⟩, ⟨rfl, rfl⟩, ⟨rfl, rfl⟩, trivial⟩ trivial⟩

theorem toProgram_ok (l : List Nod) (hw : wL wNod l ≤ 1048576) : PFun X 7 [.agg [.d (.im (l.map eNod))]] (.agg [.d (.im (l.map eNod))]) := by
  refine pfun_of Tryd.func7 rfl (by decide) Tryd.ntmps7 Tryd.results7 (by simp) rfl rfl ?_
  repeat' first
    | refine Z1 ?_ | refine Z2 ?_ | refine Z3 ?_ | refine Z4 ?_ | refine Z5 ?_ | refine Z6 ?_ | refine Z7 ?_ | refine Z8 ?_ | refine Z9 ?_ | refine Za (fun hc => ?_) (fun hc => ?_) | refine Zb (fun hc => ?_) (fun hc => ?_)
    | refine Zc (toNodeS_ok l hw) ?_ | refine Zd ?_ | refine Ze ?_ | refine Zf ?_ | refine Zg ?_ | refine Zh ?_ | refine Zi ?_ | refine Zj ?_ | refine Zk ?_ | refine Zl ?_ | refine Zm ?_ | refine Zn (fun hc => ?_) (fun hc => ?_)
    | refine Zo ?_ | refine ok_seq ?_ | refine ok_reg ?_ | refine Zp ?_ | refine Zq ?_ | refine Zr (fun hc => ?_) (fun hc => ?_) | refine ok_block ?_ | refine ok_exit ?_ | refine ok_skip ?_ | refine ok_ret ?_ | refine x_normal_then ?_
    | refine x_exit_here ?_ | refine Zs ?_ | refine Zv ?_ | refine x_ret_then ?_ | refine x_ret_block ?_ | refine x_normal_block ?_ | refine Zt ?_ | refine Zu ?_
  rfl
theorem eqProgram_ok (l : List Nod) (hw : wL wNod l ≤ 1048576) : PFun X 9 [.agg [.d (.im (l.map eNod))], .agg [.d (.im (l.map eNod))]] (vb true) := by
  have ht : (!true) = false := rfl
  refine pfun_of Tryd.func9 rfl (by decide) Tryd.ntmps9 Tryd.results9 (by simp) rfl rfl ?_
  repeat' first
    | refine Z1 ?_ | refine Z2 ?_ | refine Z3 ?_ | refine Z4 ?_ | refine Z5 ?_ | refine Z6 ?_ | refine Z7 ?_ | refine Z8 ?_ | refine Z9 ?_ | refine Za (fun hc => ?_) (fun hc => ?_) | refine Zb (fun hc => ?_) (fun hc => ?_)
    | refine Zc (eqNodeS_ok l hw) ?_ | refine Zd ?_ | refine Ze ?_ | refine Zf ?_ | refine Zg ?_ | refine Zh ?_ | refine Zi ?_ | refine Zj ?_ | refine Zk ?_ | refine Zl ?_ | refine Zm ?_ | refine Zn (fun hc => ?_) (fun hc => ?_)
    | refine Zo ?_ | refine ok_seq ?_ | refine ok_reg ?_ | refine Zp ?_ | refine Zq ?_ | refine Zr (fun hc => ?_) (fun hc => ?_) | refine ok_block ?_ | refine ok_exit ?_ | refine ok_skip ?_ | refine ok_ret ?_ | refine x_normal_then ?_
    | refine x_exit_here ?_ | refine Zs ?_ | refine Zv ?_ | refine x_ret_then ?_ | refine x_ret_block ?_ | refine x_normal_block ?_ | refine Zt ?_ | refine Zu ?_
  rfl

end Go.Pm