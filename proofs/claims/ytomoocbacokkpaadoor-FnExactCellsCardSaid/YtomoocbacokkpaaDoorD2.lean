/- Machines: the functions that the laws name, and the laws. -/
import Derived.Test.YtomoocbacokkpaaDoorD1
import Derived.Test.YtomoocbacokkpaaDoorB9
import Derived.Test.YtomoocbacokkpaaDoorB6
set_option linter.unusedVariables false
set_option linter.unusedSimpArgs false
namespace Go.Pm
attribute [local irreducible] AR Ok inBlock andThen endQ aoper
set_option maxHeartbeats 4000000
open Go.Proofs
theorem class_good {cs : List Cls} {k : Nat} {c : Cls} (h : classS cs k c = true) : goodC k c := by
  obtain ⟨_, _, _, _, _, _, h1, h2, h3, _⟩ := (classS_iff cs k c).1 h
  refine ⟨?_, fun g hg => ?_, fun s hs k3 => ?_⟩
  · unfold nestV at h3
    cases hq : growI c.body with
    | none => rw [hq] at h3; cases h3
    | some R => exact ⟨R, rfl⟩
  · have := List.all_eq_true.1 h1 g hg
    simpa [insS] using this
  · have := List.all_eq_true.1 h2 s hs
    unfold stmS at this
    split at this; · cases this
    split at this; · cases this
    split at this; · cases this
    split at this; · cases this
    simp only [k3] at this
    simp at this
    exact this.1
theorem smok_ok (cs : List Cls) (hw : wL wCls cs ≤ 1048576) : PFun X 7 [.agg [.d (.im (cs.map eCls))]] (vb (mokS cs)) := by
  have hcl : cs.length ≤ 1048576 := by simp only [wL] at hw; omega
  have hm : mokS cs = mokS cs := rfl
  conv at hm => rhs; unfold mokS
  refine pfun_of Tryd.func7 rfl (by decide) Tryd.ntmps7 Tryd.results7 (by simp) rfl rfl ?_
  by_cases hb : (cs.length : Int) < 1 ∨ 200 < (cs.length : Int)
  · rw [if_pos hb] at hm
    by_cases h1 : (cs.length : Int) < 1
    · have e1 : decide ((cs.length : Int) < 1) = true := decide_eq_true h1
      repeat' first
        | refine Z1 ?_ | refine Z2 ?_ | refine Z3 ?_ | refine Z4 ?_ | refine Z5 ?_ | refine Z6 ?_ | refine Z7 ?_ | refine Z8 ?_ | refine Z9 ?_ | refine Za (fun hc => ?_) (fun hc => ?_) | refine Zb (fun hc => ?_) (fun hc => ?_)
        | refine Zd ?_ | refine Ze ?_ | refine Zf ?_ | refine Zg ?_ | refine Zh ?_ | refine Zi ?_ | refine Zj ?_ | refine Zk ?_ | refine Zl ?_ | refine Zm ?_ | refine Zn (fun hc => ?_) (fun hc => ?_) | refine Zo ?_ | refine ok_seq ?_
        | refine ok_reg ?_ | refine Zp ?_ | refine Zq ?_ | refine Zr (fun hc => ?_) (fun hc => ?_) | refine ok_block ?_ | refine ok_exit ?_ | refine ok_skip ?_ | refine ok_ret ?_ | refine x_normal_then ?_ | refine x_exit_here ?_
        | refine Zs ?_ | refine Zv ?_ | refine x_ret_then ?_ | refine x_ret_block ?_ | refine x_normal_block ?_ | refine Zt ?_ | refine Zu ?_
      exact ret_vb hm.symm
    · have e1 : decide ((cs.length : Int) < 1) = false := decide_eq_false h1
      have e2 : decide (200 < (cs.length : Int)) = true := decide_eq_true (by omega)
      repeat' first
        | refine Z1 ?_ | refine Z2 ?_ | refine Z3 ?_ | refine Z4 ?_ | refine Z5 ?_ | refine Z6 ?_ | refine Z7 ?_ | refine Z8 ?_ | refine Z9 ?_ | refine Za (fun hc => ?_) (fun hc => ?_) | refine Zb (fun hc => ?_) (fun hc => ?_)
        | refine Zd ?_ | refine Ze ?_ | refine Zf ?_ | refine Zg ?_ | refine Zh ?_ | refine Zi ?_ | refine Zj ?_ | refine Zk ?_ | refine Zl ?_ | refine Zm ?_ | refine Zn (fun hc => ?_) (fun hc => ?_) | refine Zo ?_ | refine ok_seq ?_
        | refine ok_reg ?_ | refine Zp ?_ | refine Zq ?_ | refine Zr (fun hc => ?_) (fun hc => ?_) | refine ok_block ?_ | refine ok_exit ?_ | refine ok_skip ?_ | refine ok_ret ?_ | refine x_normal_then ?_ | refine x_exit_here ?_
        | refine Zs ?_ | refine Zv ?_ | refine x_ret_then ?_ | refine x_ret_block ?_ | refine x_normal_block ?_ | refine Zt ?_ | refine Zu ?_
      exact ret_vb hm.symm
  have e1 : decide ((cs.length : Int) < 1) = false := decide_eq_false (by omega)
  have e2 : decide (200 < (cs.length : Int)) = false := decide_eq_false (by omega)
  rw [if_neg hb] at hm
  repeat' first
    | refine Z1 ?_ | refine Z2 ?_ | refine Z3 ?_ | refine Z4 ?_ | refine Z5 ?_ | refine Z6 ?_ | refine Z7 ?_ | refine Z8 ?_ | refine Z9 ?_ | refine Za (fun hc => ?_) (fun hc => ?_) | refine Zb (fun hc => ?_) (fun hc => ?_) | refine Zd ?_
    | refine Ze ?_ | refine Zf ?_ | refine Zg ?_ | refine Zh ?_ | refine Zi ?_ | refine Zj ?_ | refine Zk ?_ | refine Zl ?_ | refine Zm ?_ | refine Zn (fun hc => ?_) (fun hc => ?_) | refine Zo ?_ | refine ok_seq ?_ | refine ok_reg ?_
    | refine Zp ?_ | refine Zq ?_ | refine Zr (fun hc => ?_) (fun hc => ?_) | refine ok_block ?_ | refine ok_exit ?_ | refine ok_skip ?_ | refine ok_ret ?_ | refine x_normal_then ?_ | refine x_exit_here ?_ | refine Zs ?_ | refine Zv ?_
    | refine x_ret_then ?_ | refine x_ret_block ?_ | refine x_normal_block ?_ | refine Zt ?_ | refine Zu ?_
  refine ok_for (ι := Nat) (fun x => envL [(1, .ref 0 0), (20, vi cs.length), (21, vi x)]) (fun x => stL [some (.var [.d (.im (cs.map eCls))])]) (fun x => x ≤ cs.length ∧ ∀ j, j < x → classAt cs j = true) (fun x => cs.length - x) 0 (⟨Nat.zero_le _, fun j hj => by omega⟩) (weak_mk rfl ⟨.refl _, .refl _, .refl _, trivial⟩ ⟨⟨rfl, _, rfl, rfl, fun _ _ _ => .refl _⟩, trivial⟩) (fun _ => Nat.le_refl 1) ?_
  rintro k ⟨i1, i2⟩
  by_cases hk : k < cs.length
  · obtain ⟨c, hx⟩ : ∃ c, cs[k]? = some c := ⟨cs[k], List.getElem?_eq_getElem hk⟩
    have ek : decide ((k : Int) < (cs.length : Int)) = true := decide_eq_true (by omega)
    have hcls := sclass_ok cs k c hx hw
    have hca : classAt cs k = classS cs k c := by unfold classAt; rw [hx]
    cases hq : classS cs k c with
    | false =>
      have n1 : (!classS cs k c) = true := by rw [hq]; rfl
      have hf : (List.range cs.length).all (classAt cs) = false := by
        cases hz : (List.range cs.length).all (classAt cs) with
        | false => rfl
        | true => rw [← hq, (at_iff cs).1 hz k c hx]
      rw [if_pos hf] at hm
      repeat' first
        | refine Z1 ?_ | refine Z2 ?_ | refine Z3 ?_ | refine Z4 ?_ | refine Z5 ?_ | refine Z6 ?_ | refine Z7 ?_ | refine Z8 ?_ | refine Z9 ?_ | refine Za (fun hc => ?_) (fun hc => ?_) | refine Zb (fun hc => ?_) (fun hc => ?_)
        | refine Zc (hcls) ?_ | refine Zd ?_ | refine Ze ?_ | refine Zf ?_ | refine Zg ?_ | refine Zh ?_ | refine Zi ?_ | refine Zj ?_ | refine Zk ?_ | refine Zl ?_ | refine Zm ?_ | refine Zn (fun hc => ?_) (fun hc => ?_) | refine Zo ?_
        | refine ok_seq ?_ | refine ok_reg ?_ | refine Zp ?_ | refine Zq ?_ | refine Zr (fun hc => ?_) (fun hc => ?_) | refine ok_block ?_ | refine ok_exit ?_ | refine ok_skip ?_ | refine ok_ret ?_ | refine x_normal_then ?_
        | refine x_exit_here ?_ | refine Zs ?_ | refine Zv ?_ | refine x_ret_then ?_ | refine x_ret_block ?_ | refine x_normal_block ?_ | refine Zt ?_ | refine Zu ?_
      exact ret_vb hm.symm
    | true =>
      have n1 : (!classS cs k c) = false := by rw [hq]; rfl
      have hg : ∀ j, j < k + 1 → classAt cs j = true := by
        intro j hj
        rcases Nat.lt_or_ge j k with h | h
        · exact i2 j h
        · rw [show j = k by omega, hca, hq]
      repeat' first
        | refine Z1 ?_ | refine Z2 ?_ | refine Z3 ?_ | refine Z4 ?_ | refine Z5 ?_ | refine Z6 ?_ | refine Z7 ?_ | refine Z8 ?_ | refine Z9 ?_ | refine Za (fun hc => ?_) (fun hc => ?_) | refine Zb (fun hc => ?_) (fun hc => ?_)
        | refine Zc (hcls) ?_ | refine Zd ?_ | refine Ze ?_ | refine Zf ?_ | refine Zg ?_ | refine Zh ?_ | refine Zi ?_ | refine Zj ?_ | refine Zk ?_ | refine Zl ?_ | refine Zm ?_ | refine Zn (fun hc => ?_) (fun hc => ?_) | refine Zo ?_
        | refine ok_seq ?_ | refine ok_reg ?_ | refine Zp ?_ | refine Zq ?_ | refine Zr (fun hc => ?_) (fun hc => ?_) | refine ok_block ?_ | refine ok_exit ?_ | refine ok_skip ?_ | refine ok_ret ?_ | refine x_normal_then ?_
        | refine x_exit_here ?_ | refine Zs ?_ | refine Zv ?_ | refine x_ret_then ?_ | refine x_ret_block ?_ | refine x_normal_block ?_ | refine Zt ?_ | refine Zu ?_
      exact ⟨k + 1, ⟨hk, hg⟩, by (try simp only); omega, low_mk (Nat.le_of_ble_eq_true rfl) ⟨⟨rfl, rfl⟩, ⟨rfl, rfl⟩, ⟨rfl, rfl⟩, trivial⟩ ⟨⟨rfl, rfl⟩, trivial⟩⟩
  have ek : decide ((k : Int) < (cs.length : Int)) = false := decide_eq_false (by omega)
  have hall : (List.range cs.length).all (classAt cs) = true := by
    rw [List.all_eq_true]
    intro j hj
    exact i2 j (by have := List.mem_range.1 hj; omega)
  rw [if_neg (by rw [hall]; simp)] at hm
  have hgd : ∀ (k : Nat) (c : Cls), cs[k]? = some c → goodC k c := fun k c hx => class_good ((at_iff cs).1 hall k c hx)
  have hcell := scells_ok cs hw (fun k c hx => (hgd k c hx).2.1)
  have hbnd := sbounds_ok cs hw hgd
  have hcn : (cellsS cs).length = cs.length := by unfold cellsS; rw [cellsGo_len]; simp
  have hbn : (boundsS cs).length = cs.length := by unfold boundsS; rw [boundsGo_len]; simp
  repeat' first
    | refine Z1 ?_ | refine Z2 ?_ | refine Z3 ?_ | refine Z4 ?_ | refine Z5 ?_ | refine Z6 ?_ | refine Z7 ?_ | refine Z8 ?_ | refine Z9 ?_ | refine Za (fun hc => ?_) (fun hc => ?_) | refine Zb (fun hc => ?_) (fun hc => ?_)
    | refine Zc (hcell) ?_ | refine Zd ?_ | refine Ze ?_ | refine Zf ?_ | refine Zg ?_ | refine Zh ?_ | refine Zi ?_ | refine Zj ?_ | refine Zk ?_ | refine Zl ?_ | refine Zm ?_ | refine Zn (fun hc => ?_) (fun hc => ?_) | refine Zo ?_
    | refine ok_seq ?_ | refine ok_reg ?_ | refine Zp ?_ | refine Zq ?_ | refine Zr (fun hc => ?_) (fun hc => ?_) | refine ok_block ?_ | refine ok_exit ?_ | refine ok_skip ?_ | refine ok_ret ?_ | refine x_normal_then ?_
    | refine x_exit_here ?_ | refine Zs ?_ | refine Zv ?_ | refine x_ret_then ?_ | refine x_ret_block ?_ | refine x_normal_block ?_ | refine Zt ?_ | refine Zu ?_
  refine ok_for (ι := Nat) (fun x => envL [(1, .ref 0 0), (30, .d (.im ((cellsS cs).map eNum))), (31, vi (cellsS cs).length), (32, vi x)]) (fun x => stL [some (.var [.d (.im (cs.map eCls))])]) (fun x => x ≤ (cellsS cs).length ∧ ((cellsS cs).drop x).all (fun z => decide (z ≤ 20000)) = (cellsS cs).all (fun z => decide (z ≤ 20000))) (fun x => (cellsS cs).length - x) 0 (⟨Nat.zero_le _, rfl⟩) (weak_mk rfl ⟨.refl _, .refl _, .refl _, .refl _, trivial⟩ ⟨⟨rfl, _, rfl, rfl, fun _ _ _ => .refl _⟩, trivial⟩) (fun _ => Nat.le_refl 1) ?_
  rintro x ⟨i1, i2⟩
  rcases hx : (cellsS cs)[x]? with _ | v
  rotate_left
  · obtain ⟨hd, hlt⟩ := drop_some hx
    have ek : decide ((x : Int) < ((cellsS cs).length : Int)) = true := decide_eq_true (by omega)
    obtain ⟨a1, a2⟩ := all_of i2 hx
    by_cases t1 : 20000 < v
    · have u1 : decide (20000 < v) = true := decide_eq_true t1
      rw [if_pos (a1 (decide_eq_false (by omega)))] at hm
      repeat' first
        | refine Z1 ?_ | refine Z2 ?_ | refine Z3 ?_ | refine Z4 ?_ | refine Z5 ?_ | refine Z6 ?_ | refine Z7 ?_ | refine Z8 ?_ | refine Z9 ?_ | refine Za (fun hc => ?_) (fun hc => ?_) | refine Zb (fun hc => ?_) (fun hc => ?_)
        | refine Zd ?_ | refine Ze ?_ | refine Zf ?_ | refine Zg ?_ | refine Zh ?_ | refine Zi ?_ | refine Zj ?_ | refine Zk ?_ | refine Zl ?_ | refine Zm ?_ | refine Zn (fun hc => ?_) (fun hc => ?_) | refine Zo ?_ | refine ok_seq ?_
        | refine ok_reg ?_ | refine Zp ?_ | refine Zq ?_ | refine Zr (fun hc => ?_) (fun hc => ?_) | refine ok_block ?_ | refine ok_exit ?_ | refine ok_skip ?_ | refine ok_ret ?_ | refine x_normal_then ?_ | refine x_exit_here ?_
        | refine Zs ?_ | refine Zv ?_ | refine x_ret_then ?_ | refine x_ret_block ?_ | refine x_normal_block ?_ | refine Zt ?_ | refine Zu ?_
      exact ret_vb hm.symm
    · have u1 : decide (20000 < v) = false := decide_eq_false t1
      repeat' first
        | refine Z1 ?_ | refine Z2 ?_ | refine Z3 ?_ | refine Z4 ?_ | refine Z5 ?_ | refine Z6 ?_ | refine Z7 ?_ | refine Z8 ?_ | refine Z9 ?_ | refine Za (fun hc => ?_) (fun hc => ?_) | refine Zb (fun hc => ?_) (fun hc => ?_)
        | refine Zd ?_ | refine Ze ?_ | refine Zf ?_ | refine Zg ?_ | refine Zh ?_ | refine Zi ?_ | refine Zj ?_ | refine Zk ?_ | refine Zl ?_ | refine Zm ?_ | refine Zn (fun hc => ?_) (fun hc => ?_) | refine Zo ?_ | refine ok_seq ?_
        | refine ok_reg ?_ | refine Zp ?_ | refine Zq ?_ | refine Zr (fun hc => ?_) (fun hc => ?_) | refine ok_block ?_ | refine ok_exit ?_ | refine ok_skip ?_ | refine ok_ret ?_ | refine x_normal_then ?_ | refine x_exit_here ?_
        | refine Zs ?_ | refine Zv ?_ | refine x_ret_then ?_ | refine x_ret_block ?_ | refine x_normal_block ?_ | refine Zt ?_ | refine Zu ?_
      exact ⟨x + 1, ⟨hlt, a2 (decide_eq_true (by omega))⟩, by (try simp only); omega, low_mk (Nat.le_of_ble_eq_true rfl) ⟨⟨rfl, rfl⟩, ⟨rfl, rfl⟩, ⟨rfl, rfl⟩, ⟨rfl, rfl⟩, trivial⟩ ⟨⟨rfl, rfl⟩, trivial⟩⟩
  have hle := none_le hx
  have ek : decide ((x : Int) < ((cellsS cs).length : Int)) = false := decide_eq_false (by omega)
  rw [drop_none hx] at i2
  rw [if_neg (by rw [← i2]; simp)] at hm
  repeat' first
    | refine Z1 ?_ | refine Z2 ?_ | refine Z3 ?_ | refine Z4 ?_ | refine Z5 ?_ | refine Z6 ?_ | refine Z7 ?_ | refine Z8 ?_ | refine Z9 ?_ | refine Za (fun hc => ?_) (fun hc => ?_) | refine Zb (fun hc => ?_) (fun hc => ?_)
    | refine Zc (hbnd) ?_ | refine Zd ?_ | refine Ze ?_ | refine Zf ?_ | refine Zg ?_ | refine Zh ?_ | refine Zi ?_ | refine Zj ?_ | refine Zk ?_ | refine Zl ?_ | refine Zm ?_ | refine Zn (fun hc => ?_) (fun hc => ?_) | refine Zo ?_
    | refine ok_seq ?_ | refine ok_reg ?_ | refine Zp ?_ | refine Zq ?_ | refine Zr (fun hc => ?_) (fun hc => ?_) | refine ok_block ?_ | refine ok_exit ?_ | refine ok_skip ?_ | refine ok_ret ?_ | refine x_normal_then ?_
    | refine x_exit_here ?_ | refine Zs ?_ | refine Zv ?_ | refine x_ret_then ?_ | refine x_ret_block ?_ | refine x_normal_block ?_ | refine Zt ?_ | refine Zu ?_
  refine ok_for (ι := Nat) (fun x => envL [(1, .ref 0 0), (40, .d (.im ((boundsS cs).map eNum))), (41, vi (boundsS cs).length), (42, vi x)]) (fun x => stL [some (.var [.d (.im (cs.map eCls))])]) (fun x => x ≤ (boundsS cs).length ∧ ((boundsS cs).drop x).all (fun z => decide (z ≤ 400000)) = (boundsS cs).all (fun z => decide (z ≤ 400000))) (fun x => (boundsS cs).length - x) 0 (⟨Nat.zero_le _, rfl⟩) (weak_mk rfl ⟨.refl _, .refl _, .refl _, .refl _, trivial⟩ ⟨⟨rfl, _, rfl, rfl, fun _ _ _ => .refl _⟩, trivial⟩) (fun _ => Nat.le_refl 1) ?_
  rintro x ⟨i1, i2⟩
  rcases hx : (boundsS cs)[x]? with _ | v
  rotate_left
  · obtain ⟨hd, hlt⟩ := drop_some hx
    have ek : decide ((x : Int) < ((boundsS cs).length : Int)) = true := decide_eq_true (by omega)
    obtain ⟨a1, a2⟩ := all_of i2 hx
    by_cases t1 : 400000 < v
    · have u1 : decide (400000 < v) = true := decide_eq_true t1
      have hm := hm.trans (a1 (decide_eq_false (by omega)))
      repeat' first
        | refine Z1 ?_ | refine Z2 ?_ | refine Z3 ?_ | refine Z4 ?_ | refine Z5 ?_ | refine Z6 ?_ | refine Z7 ?_ | refine Z8 ?_ | refine Z9 ?_ | refine Za (fun hc => ?_) (fun hc => ?_) | refine Zb (fun hc => ?_) (fun hc => ?_)
        | refine Zd ?_ | refine Ze ?_ | refine Zf ?_ | refine Zg ?_ | refine Zh ?_ | refine Zi ?_ | refine Zj ?_ | refine Zk ?_ | refine Zl ?_ | refine Zm ?_ | refine Zn (fun hc => ?_) (fun hc => ?_) | refine Zo ?_ | refine ok_seq ?_
        | refine ok_reg ?_ | refine Zp ?_ | refine Zq ?_ | refine Zr (fun hc => ?_) (fun hc => ?_) | refine ok_block ?_ | refine ok_exit ?_ | refine ok_skip ?_ | refine ok_ret ?_ | refine x_normal_then ?_ | refine x_exit_here ?_
        | refine Zs ?_ | refine Zv ?_ | refine x_ret_then ?_ | refine x_ret_block ?_ | refine x_normal_block ?_ | refine Zt ?_ | refine Zu ?_
      exact ret_vb hm.symm
    · have u1 : decide (400000 < v) = false := decide_eq_false t1
      repeat' first
        | refine Z1 ?_ | refine Z2 ?_ | refine Z3 ?_ | refine Z4 ?_ | refine Z5 ?_ | refine Z6 ?_ | refine Z7 ?_ | refine Z8 ?_ | refine Z9 ?_ | refine Za (fun hc => ?_) (fun hc => ?_) | refine Zb (fun hc => ?_) (fun hc => ?_)
        | refine Zd ?_ | refine Ze ?_ | refine Zf ?_ | refine Zg ?_ | refine Zh ?_ | refine Zi ?_ | refine Zj ?_ | refine Zk ?_ | refine Zl ?_ | refine Zm ?_ | refine Zn (fun hc => ?_) (fun hc => ?_) | refine Zo ?_ | refine ok_seq ?_
        | refine ok_reg ?_ | refine Zp ?_ | refine Zq ?_ | refine Zr (fun hc => ?_) (fun hc => ?_) | refine ok_block ?_ | refine ok_exit ?_ | refine ok_skip ?_ | refine ok_ret ?_ | refine x_normal_then ?_ | refine x_exit_here ?_
        | refine Zs ?_ | refine Zv ?_ | refine x_ret_then ?_ | refine x_ret_block ?_ | refine x_normal_block ?_ | refine Zt ?_ | refine Zu ?_
      exact ⟨x + 1, ⟨hlt, a2 (decide_eq_true (by omega))⟩, by (try simp only); omega, low_mk (Nat.le_of_ble_eq_true rfl) ⟨⟨rfl, rfl⟩, ⟨rfl, rfl⟩, ⟨rfl, rfl⟩, ⟨rfl, rfl⟩, trivial⟩ ⟨⟨rfl, rfl⟩, trivial⟩⟩
  have hle := none_le hx
  have ek : decide ((x : Int) < ((boundsS cs).length : Int)) = false := decide_eq_false (by omega)
  rw [drop_none hx] at i2
  have i2 : true = (boundsS cs).all (fun z => decide (z ≤ 400000)) := i2
  rw [← i2] at hm
  repeat' first
    | refine Z1 ?_ | refine Z2 ?_ | refine Z3 ?_ | refine Z4 ?_ | refine Z5 ?_ | refine Z6 ?_ | refine Z7 ?_ | refine Z8 ?_ | refine Z9 ?_ | refine Za (fun hc => ?_) (fun hc => ?_) | refine Zb (fun hc => ?_) (fun hc => ?_) | refine Zd ?_
    | refine Ze ?_ | refine Zf ?_ | refine Zg ?_ | refine Zh ?_ | refine Zi ?_ | refine Zj ?_ | refine Zk ?_ | refine Zl ?_ | refine Zm ?_ | refine Zn (fun hc => ?_) (fun hc => ?_) | refine Zo ?_ | refine ok_seq ?_ | refine ok_reg ?_
    | refine Zp ?_ | refine Zq ?_ | refine Zr (fun hc => ?_) (fun hc => ?_) | refine ok_block ?_ | refine ok_exit ?_ | refine ok_skip ?_ | refine ok_ret ?_ | refine x_normal_then ?_ | refine x_exit_here ?_ | refine Zs ?_ | refine Zv ?_
    | refine x_ret_then ?_ | refine x_ret_block ?_ | refine x_normal_block ?_ | refine Zt ?_ | refine Zu ?_
  exact ret_vb hm.symm
theorem mok_ok (cs : List Cls) (hw : wL wCls cs ≤ 1048576) : PFun X 9 [.agg [.d (.im (cs.map eCls))]] (vb (mokS cs)) := by
  obtain ⟨m1, m2⟩ := m_eq cs
  have hms := measured_ok cs hw
  refine pfun_of Tryd.func9 rfl (by decide) Tryd.ntmps9 Tryd.results9 (by simp) rfl rfl ?_
  cases hq : mokS cs with
  | true =>
    rw [m1 hq] at hms
    repeat' first
      | refine Z1 ?_ | refine Z2 ?_ | refine Z3 ?_ | refine Z4 ?_ | refine Z5 ?_ | refine Z6 ?_ | refine Z7 ?_ | refine Z8 ?_ | refine Z9 ?_ | refine Za (fun hc => ?_) (fun hc => ?_) | refine Zb (fun hc => ?_) (fun hc => ?_)
      | refine Zc (hms) ?_ | refine Zd ?_ | refine Ze ?_ | refine Zf ?_ | refine Zg ?_ | refine Zh ?_ | refine Zi ?_ | refine Zj ?_ | refine Zk ?_ | refine Zl ?_ | refine Zm ?_ | refine Zn (fun hc => ?_) (fun hc => ?_) | refine Zo ?_
      | refine ok_seq ?_ | refine ok_reg ?_ | refine Zp ?_ | refine Zq ?_ | refine Zr (fun hc => ?_) (fun hc => ?_) | refine ok_block ?_ | refine ok_exit ?_ | refine ok_skip ?_ | refine ok_ret ?_ | refine x_normal_then ?_
      | refine x_exit_here ?_ | refine Zs ?_ | refine Zv ?_ | refine x_ret_then ?_ | refine x_ret_block ?_ | refine x_normal_block ?_ | refine Zt ?_ | refine Zu ?_
    rfl
  | false =>
    rw [m2 hq] at hms
    repeat' first
      | refine Z1 ?_ | refine Z2 ?_ | refine Z3 ?_ | refine Z4 ?_ | refine Z5 ?_ | refine Z6 ?_ | refine Z7 ?_ | refine Z8 ?_ | refine Z9 ?_ | refine Za (fun hc => ?_) (fun hc => ?_) | refine Zb (fun hc => ?_) (fun hc => ?_)
      | refine Zc (hms) ?_ | refine Zd ?_ | refine Ze ?_ | refine Zf ?_ | refine Zg ?_ | refine Zh ?_ | refine Zi ?_ | refine Zj ?_ | refine Zk ?_ | refine Zl ?_ | refine Zm ?_ | refine Zn (fun hc => ?_) (fun hc => ?_) | refine Zo ?_
      | refine ok_seq ?_ | refine ok_reg ?_ | refine Zp ?_ | refine Zq ?_ | refine Zr (fun hc => ?_) (fun hc => ?_) | refine ok_block ?_ | refine ok_exit ?_ | refine ok_skip ?_ | refine ok_ret ?_ | refine x_normal_then ?_
      | refine x_exit_here ?_ | refine Zs ?_ | refine Zv ?_ | refine x_ret_then ?_ | refine x_ret_block ?_ | refine x_normal_block ?_ | refine Zt ?_ | refine Zu ?_
    rfl
end Go.Pm
/- Machines: cells and bounds of a class, and the three laws. -/
set_option linter.unusedVariables false
set_option linter.unusedSimpArgs false
namespace Go.Pm
attribute [local irreducible] AR Ok inBlock andThen endQ aoper
set_option maxHeartbeats 4000000
open Go.Proofs
theorem mok_good {cs : List Cls} (h : mokS cs = true) : ∀ (k : Nat) (c : Cls), cs[k]? = some c → goodC k c := by
  unfold mokS at h
  split at h
  · cases h
  · split at h
    · cases h
    · rename_i h2
      intro k c hx
      exact class_good ((at_iff cs).1 (by simpa using h2) k c hx)
def hasS (cs : List Cls) (n : Int) : Bool := mokS cs && decide (0 ≤ n) && decide (n < (cs.length : Int))
theorem shas_ok (cs : List Cls) (n : Int) (hw : wL wCls cs ≤ 1048576) : PFun X 22 [.agg [.d (.im (cs.map eCls))], vi n] (vb (hasS cs n)) := by
  refine pfun_of Tryd.func22 rfl (by decide) Tryd.ntmps22 Tryd.results22 (by simp) rfl rfl ?_
  cases h1 : mokS cs with
  | false =>
    repeat' first
      | refine Z1 ?_ | refine Z2 ?_ | refine Z3 ?_ | refine Z4 ?_ | refine Z5 ?_ | refine Z6 ?_ | refine Z7 ?_ | refine Z8 ?_ | refine Z9 ?_ | refine Za (fun hc => ?_) (fun hc => ?_) | refine Zb (fun hc => ?_) (fun hc => ?_)
      | refine Zc (smok_ok cs hw) ?_ | refine Zd ?_ | refine Ze ?_ | refine Zf ?_ | refine Zg ?_ | refine Zh ?_ | refine Zi ?_ | refine Zj ?_ | refine Zk ?_ | refine Zl ?_ | refine Zm ?_ | refine Zn (fun hc => ?_) (fun hc => ?_)
      | refine Zo ?_ | refine ok_seq ?_ | refine ok_reg ?_ | refine Zp ?_ | refine Zq ?_ | refine Zr (fun hc => ?_) (fun hc => ?_) | refine ok_block ?_ | refine ok_exit ?_ | refine ok_skip ?_ | refine ok_ret ?_ | refine x_normal_then ?_
      | refine x_exit_here ?_ | refine Zs ?_ | refine Zv ?_ | refine x_ret_then ?_ | refine x_ret_block ?_ | refine x_normal_block ?_ | refine Zt ?_ | refine Zu ?_
    exact ret_vb (by rw [hasS, h1]; rfl)
  | true =>
    cases h2 : decide (0 ≤ n) with
    | false =>
      repeat' first
        | refine Z1 ?_ | refine Z2 ?_ | refine Z3 ?_ | refine Z4 ?_ | refine Z5 ?_ | refine Z6 ?_ | refine Z7 ?_ | refine Z8 ?_ | refine Z9 ?_ | refine Za (fun hc => ?_) (fun hc => ?_) | refine Zb (fun hc => ?_) (fun hc => ?_)
        | refine Zc (smok_ok cs hw) ?_ | refine Zd ?_ | refine Ze ?_ | refine Zf ?_ | refine Zg ?_ | refine Zh ?_ | refine Zi ?_ | refine Zj ?_ | refine Zk ?_ | refine Zl ?_ | refine Zm ?_ | refine Zn (fun hc => ?_) (fun hc => ?_)
        | refine Zo ?_ | refine ok_seq ?_ | refine ok_reg ?_ | refine Zp ?_ | refine Zq ?_ | refine Zr (fun hc => ?_) (fun hc => ?_) | refine ok_block ?_ | refine ok_exit ?_ | refine ok_skip ?_ | refine ok_ret ?_ | refine x_normal_then ?_
        | refine x_exit_here ?_ | refine Zs ?_ | refine Zv ?_ | refine x_ret_then ?_ | refine x_ret_block ?_ | refine x_normal_block ?_ | refine Zt ?_ | refine Zu ?_
      exact ret_vb (by rw [hasS, h1, h2]; rfl)
    | true =>
      repeat' first
        | refine Z1 ?_ | refine Z2 ?_ | refine Z3 ?_ | refine Z4 ?_ | refine Z5 ?_ | refine Z6 ?_ | refine Z7 ?_ | refine Z8 ?_ | refine Z9 ?_ | refine Za (fun hc => ?_) (fun hc => ?_) | refine Zb (fun hc => ?_) (fun hc => ?_)
        | refine Zc (smok_ok cs hw) ?_ | refine Zd ?_ | refine Ze ?_ | refine Zf ?_ | refine Zg ?_ | refine Zh ?_ | refine Zi ?_ | refine Zj ?_ | refine Zk ?_ | refine Zl ?_ | refine Zm ?_ | refine Zn (fun hc => ?_) (fun hc => ?_)
        | refine Zo ?_ | refine ok_seq ?_ | refine ok_reg ?_ | refine Zp ?_ | refine Zq ?_ | refine Zr (fun hc => ?_) (fun hc => ?_) | refine ok_block ?_ | refine ok_exit ?_ | refine ok_skip ?_ | refine ok_ret ?_ | refine x_normal_then ?_
        | refine x_exit_here ?_ | refine Zs ?_ | refine Zv ?_ | refine x_ret_then ?_ | refine x_ret_block ?_ | refine x_normal_block ?_ | refine Zt ?_ | refine Zu ?_
      exact ret_vb (by rw [hasS, h1, h2]; rfl)
def cellAt (cs : List Cls) (n : Int) : Int := if hasS cs n = true then (cellsS cs).getD n.toNat 0 else -1
def boundAt (cs : List Cls) (n : Int) : Int := if hasS cs n = true then (boundsS cs).getD n.toNat 0 else -1
theorem has_f {cs : List Cls} {n : Int} (h : n < 0 ∨ (cs.length : Int) ≤ n) : hasS cs n = false := by
  unfold hasS
  rcases h with h | h
  · rw [decide_eq_false (show ¬ 0 ≤ n by omega)]; simp
  · rw [decide_eq_false (show ¬ n < (cs.length : Int) by omega)]; simp
theorem has_t {cs : List Cls} {n : Int} (hm : mokS cs = true) (h0 : 0 ≤ n) (h1 : n < (cs.length : Int)) : hasS cs n = true := by
  unfold hasS
  rw [hm, decide_eq_true h0, decide_eq_true h1]; rfl
theorem has_split {cs : List Cls} {n : Int} (h : hasS cs n = true) : mokS cs = true ∧ ∃ k : Nat, n = (k : Int) ∧ k < cs.length := by
  simp only [hasS, Bool.and_eq_true, decide_eq_true_eq] at h
  exact ⟨h.1.1, n.toNat, by omega, by omega⟩
theorem scell_ok (cs : List Cls) (n : Int) (hw : wL wCls cs ≤ 1048576) : PFun X 13 [.agg [.d (.im (cs.map eCls))], vi n] (vi (cellAt cs n)) := by
  have hhs := shas_ok cs n hw
  refine pfun_of Tryd.func13 rfl (by decide) Tryd.ntmps13 Tryd.results13 (by simp) rfl rfl ?_
  cases h1 : hasS cs n with
  | false =>
    have n1 : (!hasS cs n) = true := by rw [h1]; rfl
    repeat' first
      | refine Z1 ?_ | refine Z2 ?_ | refine Z3 ?_ | refine Z4 ?_ | refine Z5 ?_ | refine Z6 ?_ | refine Z7 ?_ | refine Z8 ?_ | refine Z9 ?_ | refine Za (fun hc => ?_) (fun hc => ?_) | refine Zb (fun hc => ?_) (fun hc => ?_)
      | refine Zc (hhs) ?_ | refine Zd ?_ | refine Ze ?_ | refine Zf ?_ | refine Zg ?_ | refine Zh ?_ | refine Zi ?_ | refine Zj ?_ | refine Zk ?_ | refine Zl ?_ | refine Zm ?_ | refine Zn (fun hc => ?_) (fun hc => ?_) | refine Zo ?_
      | refine ok_seq ?_ | refine ok_reg ?_ | refine Zp ?_ | refine Zq ?_ | refine Zr (fun hc => ?_) (fun hc => ?_) | refine ok_block ?_ | refine ok_exit ?_ | refine ok_skip ?_ | refine ok_ret ?_ | refine x_normal_then ?_
      | refine x_exit_here ?_ | refine Zs ?_ | refine Zv ?_ | refine x_ret_then ?_ | refine x_ret_block ?_ | refine x_normal_block ?_ | refine Zt ?_ | refine Zu ?_
    exact ret_vi (by rw [cellAt, h1]; rfl)
  | true =>
    have n1 : (!hasS cs n) = false := by rw [h1]; rfl
    obtain ⟨hm, k, rfl, hk⟩ := has_split h1
    obtain ⟨v, hv⟩ : ∃ v, (cellsS cs)[k]? = some v := ⟨(cellsS cs)[k]'(by unfold cellsS; rw [cellsGo_len]; simpa using hk), List.getElem?_eq_getElem _⟩
    repeat' first
      | refine Z1 ?_ | refine Z2 ?_ | refine Z3 ?_ | refine Z4 ?_ | refine Z5 ?_ | refine Z6 ?_ | refine Z7 ?_ | refine Z8 ?_ | refine Z9 ?_ | refine Za (fun hc => ?_) (fun hc => ?_) | refine Zb (fun hc => ?_) (fun hc => ?_)
      | refine Zc (hhs) ?_ | refine Zc (scells_ok cs hw (fun k c hx => (mok_good hm k c hx).2.1)) ?_ | refine Zd ?_ | refine Ze ?_ | refine Zf ?_ | refine Zg ?_ | refine Zh ?_ | refine Zi ?_ | refine Zj ?_ | refine Zk ?_ | refine Zl ?_
      | refine Zm ?_ | refine Zn (fun hc => ?_) (fun hc => ?_) | refine Zo ?_ | refine ok_seq ?_ | refine ok_reg ?_ | refine Zp ?_ | refine Zq ?_ | refine Zr (fun hc => ?_) (fun hc => ?_) | refine ok_block ?_ | refine ok_exit ?_
      | refine ok_skip ?_ | refine ok_ret ?_ | refine x_normal_then ?_ | refine x_exit_here ?_ | refine Zs ?_ | refine Zv ?_ | refine x_ret_then ?_ | refine x_ret_block ?_ | refine x_normal_block ?_ | refine Zt ?_ | refine Zu ?_
    exact ret_vi (by rw [cellAt, h1]; simp [hv])
theorem sbound_ok (cs : List Cls) (n : Int) (hw : wL wCls cs ≤ 1048576) : PFun X 11 [.agg [.d (.im (cs.map eCls))], vi n] (vi (boundAt cs n)) := by
  have hhs := shas_ok cs n hw
  refine pfun_of Tryd.func11 rfl (by decide) Tryd.ntmps11 Tryd.results11 (by simp) rfl rfl ?_
  cases h1 : hasS cs n with
  | false =>
    have n1 : (!hasS cs n) = true := by rw [h1]; rfl
    repeat' first
      | refine Z1 ?_ | refine Z2 ?_ | refine Z3 ?_ | refine Z4 ?_ | refine Z5 ?_ | refine Z6 ?_ | refine Z7 ?_ | refine Z8 ?_ | refine Z9 ?_ | refine Za (fun hc => ?_) (fun hc => ?_) | refine Zb (fun hc => ?_) (fun hc => ?_)
      | refine Zc (hhs) ?_ | refine Zd ?_ | refine Ze ?_ | refine Zf ?_ | refine Zg ?_ | refine Zh ?_ | refine Zi ?_ | refine Zj ?_ | refine Zk ?_ | refine Zl ?_ | refine Zm ?_ | refine Zn (fun hc => ?_) (fun hc => ?_) | refine Zo ?_
      | refine ok_seq ?_ | refine ok_reg ?_ | refine Zp ?_ | refine Zq ?_ | refine Zr (fun hc => ?_) (fun hc => ?_) | refine ok_block ?_ | refine ok_exit ?_ | refine ok_skip ?_ | refine ok_ret ?_ | refine x_normal_then ?_
      | refine x_exit_here ?_ | refine Zs ?_ | refine Zv ?_ | refine x_ret_then ?_ | refine x_ret_block ?_ | refine x_normal_block ?_ | refine Zt ?_ | refine Zu ?_
    exact ret_vi (by rw [boundAt, h1]; rfl)
  | true =>
    have n1 : (!hasS cs n) = false := by rw [h1]; rfl
    obtain ⟨hm, k, rfl, hk⟩ := has_split h1
    obtain ⟨v, hv⟩ : ∃ v, (boundsS cs)[k]? = some v := ⟨(boundsS cs)[k]'(by unfold boundsS; rw [boundsGo_len]; simpa using hk), List.getElem?_eq_getElem _⟩
    repeat' first
      | refine Z1 ?_ | refine Z2 ?_ | refine Z3 ?_ | refine Z4 ?_ | refine Z5 ?_ | refine Z6 ?_ | refine Z7 ?_ | refine Z8 ?_ | refine Z9 ?_ | refine Za (fun hc => ?_) (fun hc => ?_) | refine Zb (fun hc => ?_) (fun hc => ?_)
      | refine Zc (hhs) ?_ | refine Zc (sbounds_ok cs hw (mok_good hm)) ?_ | refine Zd ?_ | refine Ze ?_ | refine Zf ?_ | refine Zg ?_ | refine Zh ?_ | refine Zi ?_ | refine Zj ?_ | refine Zk ?_ | refine Zl ?_ | refine Zm ?_
      | refine Zn (fun hc => ?_) (fun hc => ?_) | refine Zo ?_ | refine ok_seq ?_ | refine ok_reg ?_ | refine Zp ?_ | refine Zq ?_ | refine Zr (fun hc => ?_) (fun hc => ?_) | refine ok_block ?_ | refine ok_exit ?_ | refine ok_skip ?_
      | refine ok_ret ?_ | refine x_normal_then ?_ | refine x_exit_here ?_ | refine Zs ?_ | refine Zv ?_ | refine x_ret_then ?_ | refine x_ret_block ?_ | refine x_normal_block ?_ | refine Zt ?_ | refine Zu ?_
    exact ret_vi (by rw [boundAt, h1]; simp [hv])
theorem cell_ok (cs : List Cls) (n : Int) (hw : wL wCls cs ≤ 1048576) : PFun X 14 [.agg [.d (.im (cs.map eCls))], vi n] (vi (cellAt cs n)) := by
  obtain ⟨m1, m2⟩ := m_eq cs
  have hms := measured_ok cs hw
  have t1 : (!true) = false := rfl
  have t2 : (!false) = true := rfl
  refine pfun_of Tryd.func14 rfl (by decide) Tryd.ntmps14 Tryd.results14 (by simp) rfl rfl ?_
  cases hq : mokS cs with
  | false =>
    rw [m2 hq] at hms
    repeat' first
      | refine Z1 ?_ | refine Z2 ?_ | refine Z3 ?_ | refine Z4 ?_ | refine Z5 ?_ | refine Z6 ?_ | refine Z7 ?_ | refine Z8 ?_ | refine Z9 ?_ | refine Za (fun hc => ?_) (fun hc => ?_) | refine Zb (fun hc => ?_) (fun hc => ?_)
      | refine Zc (hms) ?_ | refine Zd ?_ | refine Ze ?_ | refine Zf ?_ | refine Zg ?_ | refine Zh ?_ | refine Zi ?_ | refine Zj ?_ | refine Zk ?_ | refine Zl ?_ | refine Zm ?_ | refine Zn (fun hc => ?_) (fun hc => ?_) | refine Zo ?_
      | refine ok_seq ?_ | refine ok_reg ?_ | refine Zp ?_ | refine Zq ?_ | refine Zr (fun hc => ?_) (fun hc => ?_) | refine ok_block ?_ | refine ok_exit ?_ | refine ok_skip ?_ | refine ok_ret ?_ | refine x_normal_then ?_
      | refine x_exit_here ?_ | refine Zs ?_ | refine Zv ?_ | refine x_ret_then ?_ | refine x_ret_block ?_ | refine x_normal_block ?_ | refine Zt ?_ | refine Zu ?_
    exact ret_vi (by simp [cellAt, hasS, hq])
  | true =>
    rw [m1 hq] at hms
    by_cases h0 : n < 0
    · have e2 : decide (n < 0) = true := decide_eq_true h0
      repeat' first
        | refine Z1 ?_ | refine Z2 ?_ | refine Z3 ?_ | refine Z4 ?_ | refine Z5 ?_ | refine Z6 ?_ | refine Z7 ?_ | refine Z8 ?_ | refine Z9 ?_ | refine Za (fun hc => ?_) (fun hc => ?_) | refine Zb (fun hc => ?_) (fun hc => ?_)
        | refine Zc (hms) ?_ | refine Zd ?_ | refine Ze ?_ | refine Zf ?_ | refine Zg ?_ | refine Zh ?_ | refine Zi ?_ | refine Zj ?_ | refine Zk ?_ | refine Zl ?_ | refine Zm ?_ | refine Zn (fun hc => ?_) (fun hc => ?_) | refine Zo ?_
        | refine ok_seq ?_ | refine ok_reg ?_ | refine Zp ?_ | refine Zq ?_ | refine Zr (fun hc => ?_) (fun hc => ?_) | refine ok_block ?_ | refine ok_exit ?_ | refine ok_skip ?_ | refine ok_ret ?_ | refine x_normal_then ?_
        | refine x_exit_here ?_ | refine Zs ?_ | refine Zv ?_ | refine x_ret_then ?_ | refine x_ret_block ?_ | refine x_normal_block ?_ | refine Zt ?_ | refine Zu ?_
      exact ret_vi (by rw [cellAt, has_f (.inl h0)]; rfl)
    have e2 : decide (n < 0) = false := decide_eq_false h0
    by_cases h1 : (cs.length : Int) ≤ n
    · have e3 : decide ((cs.length : Int) ≤ n) = true := decide_eq_true h1
      repeat' first
        | refine Z1 ?_ | refine Z2 ?_ | refine Z3 ?_ | refine Z4 ?_ | refine Z5 ?_ | refine Z6 ?_ | refine Z7 ?_ | refine Z8 ?_ | refine Z9 ?_ | refine Za (fun hc => ?_) (fun hc => ?_) | refine Zb (fun hc => ?_) (fun hc => ?_)
        | refine Zc (hms) ?_ | refine Zd ?_ | refine Ze ?_ | refine Zf ?_ | refine Zg ?_ | refine Zh ?_ | refine Zi ?_ | refine Zj ?_ | refine Zk ?_ | refine Zl ?_ | refine Zm ?_ | refine Zn (fun hc => ?_) (fun hc => ?_) | refine Zo ?_
        | refine ok_seq ?_ | refine ok_reg ?_ | refine Zp ?_ | refine Zq ?_ | refine Zr (fun hc => ?_) (fun hc => ?_) | refine ok_block ?_ | refine ok_exit ?_ | refine ok_skip ?_ | refine ok_ret ?_ | refine x_normal_then ?_
        | refine x_exit_here ?_ | refine Zs ?_ | refine Zv ?_ | refine x_ret_then ?_ | refine x_ret_block ?_ | refine x_normal_block ?_ | refine Zt ?_ | refine Zu ?_
      exact ret_vi (by rw [cellAt, has_f (.inr h1)]; rfl)
    have e3 : decide ((cs.length : Int) ≤ n) = false := decide_eq_false h1
    obtain ⟨k, rfl⟩ := Int.eq_ofNat_of_zero_le (by omega : 0 ≤ n)
    obtain ⟨v, hv⟩ : ∃ v, (cellsS cs)[k]? = some v := ⟨(cellsS cs)[k]'(by unfold cellsS; rw [cellsGo_len]; simp; omega), List.getElem?_eq_getElem _⟩
    repeat' first
      | refine Z1 ?_ | refine Z2 ?_ | refine Z3 ?_ | refine Z4 ?_ | refine Z5 ?_ | refine Z6 ?_ | refine Z7 ?_ | refine Z8 ?_ | refine Z9 ?_ | refine Za (fun hc => ?_) (fun hc => ?_) | refine Zb (fun hc => ?_) (fun hc => ?_)
      | refine Zc (hms) ?_ | refine nil_check ?_ | refine Zd ?_ | refine Ze ?_ | refine Zf ?_ | refine Zg ?_ | refine Zh ?_ | refine Zi ?_ | refine Zj ?_ | refine Zk ?_ | refine Zl ?_ | refine Zm ?_ | refine Zn (fun hc => ?_) (fun hc => ?_)
      | refine Zo ?_ | refine ok_seq ?_ | refine ok_reg ?_ | refine Zp ?_ | refine Zq ?_ | refine Zr (fun hc => ?_) (fun hc => ?_) | refine ok_block ?_ | refine ok_exit ?_ | refine ok_skip ?_ | refine ok_ret ?_ | refine x_normal_then ?_
      | refine x_exit_here ?_ | refine Zs ?_ | refine Zv ?_ | refine x_ret_then ?_ | refine x_ret_block ?_ | refine x_normal_block ?_ | refine Zt ?_ | refine Zu ?_
    exact ret_vi (by rw [cellAt, has_t hq (by omega) (by omega)]; simp [hv])
theorem bound_ok (cs : List Cls) (n : Int) (hw : wL wCls cs ≤ 1048576) : PFun X 12 [.agg [.d (.im (cs.map eCls))], vi n] (vi (boundAt cs n)) := by
  obtain ⟨m1, m2⟩ := m_eq cs
  have hms := measured_ok cs hw
  have t1 : (!true) = false := rfl
  have t2 : (!false) = true := rfl
  refine pfun_of Tryd.func12 rfl (by decide) Tryd.ntmps12 Tryd.results12 (by simp) rfl rfl ?_
  cases hq : mokS cs with
  | false =>
    rw [m2 hq] at hms
    repeat' first
      | refine Z1 ?_ | refine Z2 ?_ | refine Z3 ?_ | refine Z4 ?_ | refine Z5 ?_ | refine Z6 ?_ | refine Z7 ?_ | refine Z8 ?_ | refine Z9 ?_ | refine Za (fun hc => ?_) (fun hc => ?_) | refine Zb (fun hc => ?_) (fun hc => ?_)
      | refine Zc (hms) ?_ | refine Zd ?_ | refine Ze ?_ | refine Zf ?_ | refine Zg ?_ | refine Zh ?_ | refine Zi ?_ | refine Zj ?_ | refine Zk ?_ | refine Zl ?_ | refine Zm ?_ | refine Zn (fun hc => ?_) (fun hc => ?_) | refine Zo ?_
      | refine ok_seq ?_ | refine ok_reg ?_ | refine Zp ?_ | refine Zq ?_ | refine Zr (fun hc => ?_) (fun hc => ?_) | refine ok_block ?_ | refine ok_exit ?_ | refine ok_skip ?_ | refine ok_ret ?_ | refine x_normal_then ?_
      | refine x_exit_here ?_ | refine Zs ?_ | refine Zv ?_ | refine x_ret_then ?_ | refine x_ret_block ?_ | refine x_normal_block ?_ | refine Zt ?_ | refine Zu ?_
    exact ret_vi (by simp [boundAt, hasS, hq])
  | true =>
    rw [m1 hq] at hms
    by_cases h0 : n < 0
    · have e2 : decide (n < 0) = true := decide_eq_true h0
      repeat' first
        | refine Z1 ?_ | refine Z2 ?_ | refine Z3 ?_ | refine Z4 ?_ | refine Z5 ?_ | refine Z6 ?_ | refine Z7 ?_ | refine Z8 ?_ | refine Z9 ?_ | refine Za (fun hc => ?_) (fun hc => ?_) | refine Zb (fun hc => ?_) (fun hc => ?_)
        | refine Zc (hms) ?_ | refine Zd ?_ | refine Ze ?_ | refine Zf ?_ | refine Zg ?_ | refine Zh ?_ | refine Zi ?_ | refine Zj ?_ | refine Zk ?_ | refine Zl ?_ | refine Zm ?_ | refine Zn (fun hc => ?_) (fun hc => ?_) | refine Zo ?_
        | refine ok_seq ?_ | refine ok_reg ?_ | refine Zp ?_ | refine Zq ?_ | refine Zr (fun hc => ?_) (fun hc => ?_) | refine ok_block ?_ | refine ok_exit ?_ | refine ok_skip ?_ | refine ok_ret ?_ | refine x_normal_then ?_
        | refine x_exit_here ?_ | refine Zs ?_ | refine Zv ?_ | refine x_ret_then ?_ | refine x_ret_block ?_ | refine x_normal_block ?_ | refine Zt ?_ | refine Zu ?_
      exact ret_vi (by rw [boundAt, has_f (.inl h0)]; rfl)
    have e2 : decide (n < 0) = false := decide_eq_false h0
    by_cases h1 : (cs.length : Int) ≤ n
    · have e3 : decide ((cs.length : Int) ≤ n) = true := decide_eq_true h1
      repeat' first
        | refine Z1 ?_ | refine Z2 ?_ | refine Z3 ?_ | refine Z4 ?_ | refine Z5 ?_ | refine Z6 ?_ | refine Z7 ?_ | refine Z8 ?_ | refine Z9 ?_ | refine Za (fun hc => ?_) (fun hc => ?_) | refine Zb (fun hc => ?_) (fun hc => ?_)
        | refine Zc (hms) ?_ | refine Zd ?_ | refine Ze ?_ | refine Zf ?_ | refine Zg ?_ | refine Zh ?_ | refine Zi ?_ | refine Zj ?_ | refine Zk ?_ | refine Zl ?_ | refine Zm ?_ | refine Zn (fun hc => ?_) (fun hc => ?_) | refine Zo ?_
        | refine ok_seq ?_ | refine ok_reg ?_ | refine Zp ?_ | refine Zq ?_ | refine Zr (fun hc => ?_) (fun hc => ?_) | refine ok_block ?_ | refine ok_exit ?_ | refine ok_skip ?_ | refine ok_ret ?_ | refine x_normal_then ?_
        | refine x_exit_here ?_ | refine Zs ?_ | refine Zv ?_ | refine x_ret_then ?_ | refine x_ret_block ?_ | refine x_normal_block ?_ | refine Zt ?_ | refine Zu ?_
      exact ret_vi (by rw [boundAt, has_f (.inr h1)]; rfl)
    have e3 : decide ((cs.length : Int) ≤ n) = false := decide_eq_false h1
    obtain ⟨k, rfl⟩ := Int.eq_ofNat_of_zero_le (by omega : 0 ≤ n)
    obtain ⟨v, hv⟩ : ∃ v, (boundsS cs)[k]? = some v := ⟨(boundsS cs)[k]'(by unfold boundsS; rw [boundsGo_len]; simp; omega), List.getElem?_eq_getElem _⟩
    repeat' first
      | refine Z1 ?_ | refine Z2 ?_ | refine Z3 ?_ | refine Z4 ?_ | refine Z5 ?_ | refine Z6 ?_ | refine Z7 ?_ | refine Z8 ?_ | refine Z9 ?_ | refine Za (fun hc => ?_) (fun hc => ?_) | refine Zb (fun hc => ?_) (fun hc => ?_)
      | refine Zc (hms) ?_ | refine nil_check ?_ | refine Zd ?_ | refine Ze ?_ | refine Zf ?_ | refine Zg ?_ | refine Zh ?_ | refine Zi ?_ | refine Zj ?_ | refine Zk ?_ | refine Zl ?_ | refine Zm ?_ | refine Zn (fun hc => ?_) (fun hc => ?_)
      | refine Zo ?_ | refine ok_seq ?_ | refine ok_reg ?_ | refine Zp ?_ | refine Zq ?_ | refine Zr (fun hc => ?_) (fun hc => ?_) | refine ok_block ?_ | refine ok_exit ?_ | refine ok_skip ?_ | refine ok_ret ?_ | refine x_normal_then ?_
      | refine x_exit_here ?_ | refine Zs ?_ | refine Zv ?_ | refine x_ret_then ?_ | refine x_ret_block ?_ | refine x_normal_block ?_ | refine Zt ?_ | refine Zu ?_
    exact ret_vi (by rw [boundAt, has_t hq (by omega) (by omega)]; simp [hv])
theorem law_mok (cs : List Cls) (hd : dL dCls cs) : PFun X 3 [.agg [.d (.im (cs.map eCls))]] (vb true) := by
  have ht : (!true) = false := rfl
  refine pfun_of Tryd.func3 rfl (by decide) Tryd.ntmps3 Tryd.results3 (by simp) rfl rfl ?_
  by_cases hn : subI 1048576 (wL wCls cs) < 0
  · have e1 : decide (subI 1048576 (wL wCls cs) < 0) = true := decide_eq_true hn
    repeat' first
      | refine Z1 ?_ | refine Z2 ?_ | refine Z3 ?_ | refine Z4 ?_ | refine Z5 ?_ | refine Z6 ?_ | refine Z7 ?_ | refine Z8 ?_ | refine Z9 ?_ | refine Za (fun hc => ?_) (fun hc => ?_) | refine Zb (fun hc => ?_) (fun hc => ?_)
      | refine Zc (szMachine_ok cs 1048576 (by omega) (by omega) hd) ?_ | refine Zd ?_ | refine Ze ?_ | refine Zf ?_ | refine Zg ?_ | refine Zh ?_ | refine Zi ?_ | refine Zj ?_ | refine Zk ?_ | refine Zl ?_ | refine Zm ?_
      | refine Zn (fun hc => ?_) (fun hc => ?_) | refine Zo ?_ | refine ok_seq ?_ | refine ok_reg ?_ | refine Zp ?_ | refine Zq ?_ | refine Zr (fun hc => ?_) (fun hc => ?_) | refine ok_block ?_ | refine ok_exit ?_ | refine ok_skip ?_
      | refine ok_ret ?_ | refine x_normal_then ?_ | refine x_exit_here ?_ | refine Zs ?_ | refine Zv ?_ | refine x_ret_then ?_ | refine x_ret_block ?_ | refine x_normal_block ?_ | refine Zt ?_ | refine Zu ?_
    rfl
  · have e1 : decide (subI 1048576 (wL wCls cs) < 0) = false := decide_eq_false hn
    obtain ⟨h1, h2⟩ := subI_pos hn (by omega)
    have hw : wL wCls cs ≤ 1048576 := by omega
    have e2 : (!(mokS cs == mokS cs)) = false := by simp
    repeat' first
      | refine Z1 ?_ | refine Z2 ?_ | refine Z3 ?_ | refine Z4 ?_ | refine Z5 ?_ | refine Z6 ?_ | refine Z7 ?_ | refine Z8 ?_ | refine Z9 ?_ | refine Za (fun hc => ?_) (fun hc => ?_) | refine Zb (fun hc => ?_) (fun hc => ?_)
      | refine Zc (szMachine_ok cs 1048576 (by omega) (by omega) hd) ?_ | refine Zc (toMachine_ok cs hw) ?_ | refine Zc (mok_ok cs hw) ?_ | refine Zc (smok_ok cs hw) ?_ | refine Zc (eqMachine_ok cs hw) ?_ | refine Zd ?_ | refine Ze ?_
      | refine Zf ?_ | refine Zg ?_ | refine Zh ?_ | refine Zi ?_ | refine Zj ?_ | refine Zk ?_ | refine Zl ?_ | refine Zm ?_ | refine Zn (fun hc => ?_) (fun hc => ?_) | refine Zw ?_ | refine Zx ?_ | refine Zy ?_
      | refine Zz (Zc (szMachine_ok cs 1048576 (by omega) (by omega) hd) ⟨rfl, rfl⟩) ?_ | refine Zz (Zc (toMachine_ok cs hw) ⟨rfl, rfl⟩) ?_ | refine Zz (Zc (mok_ok cs hw) ⟨rfl, rfl⟩) ?_ | refine Zz (Zc (smok_ok cs hw) ⟨rfl, rfl⟩) ?_
      | refine Zz (Zc (eqMachine_ok cs hw) ⟨rfl, rfl⟩) ?_ | refine Zz (Zd ⟨rfl, rfl⟩) ?_ | refine Zz (Ze ⟨rfl, rfl⟩) ?_ | refine Zz (Zf ⟨rfl, rfl⟩) ?_ | refine Zz (Zg ⟨rfl, rfl⟩) ?_ | refine Zz (Zh ⟨rfl, rfl⟩) ?_
      | refine Zz (Zi ⟨rfl, rfl⟩) ?_ | refine Zz (Zj ⟨rfl, rfl⟩) ?_ | refine Zz (Zk ⟨rfl, rfl⟩) ?_ | refine Zz (Zl ⟨rfl, rfl⟩) ?_ | refine Zz (Zm ⟨rfl, rfl⟩) ?_ | refine Zo ?_ | refine ok_seq ?_ | refine ok_reg ?_
      | refine ok_draw X_mixed (by decide +kernel) ?_ | refine Zp ?_ | refine Zq ?_ | refine Zr (fun hc => ?_) (fun hc => ?_) | refine ok_block ?_ | refine ok_exit ?_ | refine ok_skip ?_ | refine ok_ret ?_ | refine x_normal_then ?_
      | refine x_exit_here ?_ | refine Zs ?_ | refine Zv ?_ | refine x_ret_then ?_ | refine x_ret_block ?_ | refine x_normal_block ?_ | refine Zt ?_ | refine Zu ?_
    rfl
theorem law_cells (cs : List Cls) (n : Int) (hd : dL dCls cs) : PFun X 5 [.agg [.d (.im (cs.map eCls))], vi n] (vb true) := by
  have ht : (!true) = false := rfl
  refine pfun_of Tryd.func5 rfl (by decide) Tryd.ntmps5 Tryd.results5 (by simp) rfl rfl ?_
  by_cases hn : subI 1048576 (wL wCls cs) < 0
  · have e1 : decide (subI 1048576 (wL wCls cs) < 0) = true := decide_eq_true hn
    repeat' first
      | refine Z1 ?_ | refine Z2 ?_ | refine Z3 ?_ | refine Z4 ?_ | refine Z5 ?_ | refine Z6 ?_ | refine Z7 ?_ | refine Z8 ?_ | refine Z9 ?_ | refine Za (fun hc => ?_) (fun hc => ?_) | refine Zb (fun hc => ?_) (fun hc => ?_)
      | refine Zc (szMachine_ok cs 1048576 (by omega) (by omega) hd) ?_ | refine Zd ?_ | refine Ze ?_ | refine Zf ?_ | refine Zg ?_ | refine Zh ?_ | refine Zi ?_ | refine Zj ?_ | refine Zk ?_ | refine Zl ?_ | refine Zm ?_
      | refine Zn (fun hc => ?_) (fun hc => ?_) | refine Zo ?_ | refine ok_seq ?_ | refine ok_reg ?_ | refine Zp ?_ | refine Zq ?_ | refine Zr (fun hc => ?_) (fun hc => ?_) | refine ok_block ?_ | refine ok_exit ?_ | refine ok_skip ?_
      | refine ok_ret ?_ | refine x_normal_then ?_ | refine x_exit_here ?_ | refine Zs ?_ | refine Zv ?_ | refine x_ret_then ?_ | refine x_ret_block ?_ | refine x_normal_block ?_ | refine Zt ?_ | refine Zu ?_
    rfl
  · have e1 : decide (subI 1048576 (wL wCls cs) < 0) = false := decide_eq_false hn
    obtain ⟨h1, h2⟩ := subI_pos hn (by omega)
    have hw : wL wCls cs ≤ 1048576 := by omega
    have e2 : decide (cellAt cs n ≠ cellAt cs n) = false := decide_eq_false (fun h => h rfl)
    repeat' first
      | refine Z1 ?_ | refine Z2 ?_ | refine Z3 ?_ | refine Z4 ?_ | refine Z5 ?_ | refine Z6 ?_ | refine Z7 ?_ | refine Z8 ?_ | refine Z9 ?_ | refine Za (fun hc => ?_) (fun hc => ?_) | refine Zb (fun hc => ?_) (fun hc => ?_)
      | refine Zc (szMachine_ok cs 1048576 (by omega) (by omega) hd) ?_ | refine Zc (toMachine_ok cs hw) ?_ | refine Zc (cell_ok cs n hw) ?_ | refine Zc (scell_ok cs n hw) ?_ | refine Zc (eqMachine_ok cs hw) ?_ | refine Zd ?_ | refine Ze ?_
      | refine Zf ?_ | refine Zg ?_ | refine Zh ?_ | refine Zi ?_ | refine Zj ?_ | refine Zk ?_ | refine Zl ?_ | refine Zm ?_ | refine Zn (fun hc => ?_) (fun hc => ?_) | refine Zw ?_ | refine Zx ?_ | refine Zy ?_
      | refine Zz (Zc (szMachine_ok cs 1048576 (by omega) (by omega) hd) ⟨rfl, rfl⟩) ?_ | refine Zz (Zc (toMachine_ok cs hw) ⟨rfl, rfl⟩) ?_ | refine Zz (Zc (cell_ok cs n hw) ⟨rfl, rfl⟩) ?_ | refine Zz (Zc (scell_ok cs n hw) ⟨rfl, rfl⟩) ?_
      | refine Zz (Zc (eqMachine_ok cs hw) ⟨rfl, rfl⟩) ?_ | refine Zz (Zd ⟨rfl, rfl⟩) ?_ | refine Zz (Ze ⟨rfl, rfl⟩) ?_ | refine Zz (Zf ⟨rfl, rfl⟩) ?_ | refine Zz (Zg ⟨rfl, rfl⟩) ?_ | refine Zz (Zh ⟨rfl, rfl⟩) ?_
      | refine Zz (Zi ⟨rfl, rfl⟩) ?_ | refine Zz (Zj ⟨rfl, rfl⟩) ?_ | refine Zz (Zk ⟨rfl, rfl⟩) ?_ | refine Zz (Zl ⟨rfl, rfl⟩) ?_ | refine Zz (Zm ⟨rfl, rfl⟩) ?_ | refine Zo ?_ | refine ok_seq ?_ | refine ok_reg ?_
      | refine ok_draw X_mixed (by decide +kernel) ?_ | refine Zp ?_ | refine Zq ?_ | refine Zr (fun hc => ?_) (fun hc => ?_) | refine ok_block ?_ | refine ok_exit ?_ | refine ok_skip ?_ | refine ok_ret ?_ | refine x_normal_then ?_
      | refine x_exit_here ?_ | refine Zs ?_ | refine Zv ?_ | refine x_ret_then ?_ | refine x_ret_block ?_ | refine x_normal_block ?_ | refine Zt ?_ | refine Zu ?_
    rfl
theorem law_bound (cs : List Cls) (n : Int) (hd : dL dCls cs) : PFun X 4 [.agg [.d (.im (cs.map eCls))], vi n] (vb true) := by
  have ht : (!true) = false := rfl
  refine pfun_of Tryd.func4 rfl (by decide) Tryd.ntmps4 Tryd.results4 (by simp) rfl rfl ?_
  by_cases hn : subI 1048576 (wL wCls cs) < 0
  · have e1 : decide (subI 1048576 (wL wCls cs) < 0) = true := decide_eq_true hn
    repeat' first
      | refine Z1 ?_ | refine Z2 ?_ | refine Z3 ?_ | refine Z4 ?_ | refine Z5 ?_ | refine Z6 ?_ | refine Z7 ?_ | refine Z8 ?_ | refine Z9 ?_ | refine Za (fun hc => ?_) (fun hc => ?_) | refine Zb (fun hc => ?_) (fun hc => ?_)
      | refine Zc (szMachine_ok cs 1048576 (by omega) (by omega) hd) ?_ | refine Zd ?_ | refine Ze ?_ | refine Zf ?_ | refine Zg ?_ | refine Zh ?_ | refine Zi ?_ | refine Zj ?_ | refine Zk ?_ | refine Zl ?_ | refine Zm ?_
      | refine Zn (fun hc => ?_) (fun hc => ?_) | refine Zo ?_ | refine ok_seq ?_ | refine ok_reg ?_ | refine Zp ?_ | refine Zq ?_ | refine Zr (fun hc => ?_) (fun hc => ?_) | refine ok_block ?_ | refine ok_exit ?_ | refine ok_skip ?_
      | refine ok_ret ?_ | refine x_normal_then ?_ | refine x_exit_here ?_ | refine Zs ?_ | refine Zv ?_ | refine x_ret_then ?_ | refine x_ret_block ?_ | refine x_normal_block ?_ | refine Zt ?_ | refine Zu ?_
    rfl
  · have e1 : decide (subI 1048576 (wL wCls cs) < 0) = false := decide_eq_false hn
    obtain ⟨h1, h2⟩ := subI_pos hn (by omega)
    have hw : wL wCls cs ≤ 1048576 := by omega
    have e2 : decide (boundAt cs n ≠ boundAt cs n) = false := decide_eq_false (fun h => h rfl)
    repeat' first
      | refine Z1 ?_ | refine Z2 ?_ | refine Z3 ?_ | refine Z4 ?_ | refine Z5 ?_ | refine Z6 ?_ | refine Z7 ?_ | refine Z8 ?_ | refine Z9 ?_ | refine Za (fun hc => ?_) (fun hc => ?_) | refine Zb (fun hc => ?_) (fun hc => ?_)
      | refine Zc (szMachine_ok cs 1048576 (by omega) (by omega) hd) ?_ | refine Zc (toMachine_ok cs hw) ?_ | refine Zc (bound_ok cs n hw) ?_ | refine Zc (sbound_ok cs n hw) ?_ | refine Zc (eqMachine_ok cs hw) ?_ | refine Zd ?_
      | refine Ze ?_ | refine Zf ?_ | refine Zg ?_ | refine Zh ?_ | refine Zi ?_ | refine Zj ?_ | refine Zk ?_ | refine Zl ?_ | refine Zm ?_ | refine Zn (fun hc => ?_) (fun hc => ?_) | refine Zw ?_ | refine Zx ?_ | refine Zy ?_
      | refine Zz (Zc (szMachine_ok cs 1048576 (by omega) (by omega) hd) ⟨rfl, rfl⟩) ?_ | refine Zz (Zc (toMachine_ok cs hw) ⟨rfl, rfl⟩) ?_ | refine Zz (Zc (bound_ok cs n hw) ⟨rfl, rfl⟩) ?_ | refine Zz (Zc (sbound_ok cs n hw) ⟨rfl, rfl⟩) ?_
      | refine Zz (Zc (eqMachine_ok cs hw) ⟨rfl, rfl⟩) ?_ | refine Zz (Zd ⟨rfl, rfl⟩) ?_ | refine Zz (Ze ⟨rfl, rfl⟩) ?_ | refine Zz (Zf ⟨rfl, rfl⟩) ?_ | refine Zz (Zg ⟨rfl, rfl⟩) ?_ | refine Zz (Zh ⟨rfl, rfl⟩) ?_
      | refine Zz (Zi ⟨rfl, rfl⟩) ?_ | refine Zz (Zj ⟨rfl, rfl⟩) ?_ | refine Zz (Zk ⟨rfl, rfl⟩) ?_ | refine Zz (Zl ⟨rfl, rfl⟩) ?_ | refine Zz (Zm ⟨rfl, rfl⟩) ?_ | refine Zo ?_ | refine ok_seq ?_ | refine ok_reg ?_
      | refine ok_draw X_mixed (by decide +kernel) ?_ | refine Zp ?_ | refine Zq ?_ | refine Zr (fun hc => ?_) (fun hc => ?_) | refine ok_block ?_ | refine ok_exit ?_ | refine ok_skip ?_ | refine ok_ret ?_ | refine x_normal_then ?_
      | refine x_exit_here ?_ | refine Zs ?_ | refine Zv ?_ | refine x_ret_then ?_ | refine x_ret_block ?_ | refine x_normal_block ?_ | refine Zt ?_ | refine Zu ?_
    rfl
end Go.Pm
