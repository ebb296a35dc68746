/- Machines: the functions that the laws name, and the laws. -/
import Derived.Test.YtdjanhhljinokaaDoorT14
import Derived.Test.YtdjanhhljinokaaDoorT15
import Derived.Test.YtdjanhhljinokaaDoorT8
import Derived.Test.YtdjanhhljinokaaDoorT12
import Derived.Test.YtdjanhhljinokaaDoorT9
set_option linter.unusedVariables false
set_option linter.unusedSimpArgs false
namespace Go.Pm
attribute [local irreducible] AR Ok inBlock andThen endQ aoper
set_option maxHeartbeats 4000000
open Go.Proofs
theorem class_good {cs : List Cls} {k : Nat} {c : Cls} (h : classS cs k c = true) : goodC k c := by
  obtain ⟨_, _, _, _, _, _, h1, h2, h3, _⟩ := (classS_iff cs k c).1 h
  refine ⟨?_, fun g hg => ?_, fun s hs k3 => ?_⟩
  · unfold nestV at h3
    cases hq : growI c.body with
    | none => rw [hq] at h3; cases h3
    | some R => exact ⟨R, rfl⟩
  · have := List.all_eq_true.1 h1 g hg
    simpa [insS] using this
  · have := List.all_eq_true.1 h2 s hs
    unfold stmS at this
    split at this; · cases this
    split at this; · cases this
    split at this; · cases this
    split at this; · cases this
    simp only [k3] at this
    simp at this
    exact this.1
theorem smok_ok (cs : List Cls) (hw : wL wCls cs ≤ 1048576) : PFun X 22 [.agg [.d (.im (cs.map eCls))]] (vb (mokS cs)) := by
  have hcl : cs.length ≤ 1048576 := by simp only [wL] at hw; omega
  have hm : mokS cs = mokS cs := rfl
  conv at hm => rhs; unfold mokS
  refine pfun_of Tryd.func22 rfl (by decide) Tryd.ntmps22 Tryd.results22 (by simp) rfl rfl ?_
  by_cases hb : (cs.length : Int) < 1 ∨ 200 < (cs.length : Int)
  · rw [if_pos hb] at hm
    by_cases h1 : (cs.length : Int) < 1
    · have e1 : decide ((cs.length : Int) < 1) = true := decide_eq_true h1
      repeat' first
        | refine Z1 ?_ | refine Z2 ?_ | refine Z5 ?_ | refine Z9 ?_ | refine Zd ?_ | refine Zl ?_ | refine Zo ?_ | refine ok_seq ?_ | refine Zp ?_ | refine ok_ret ?_ | refine x_ret_then ?_ | refine Zt ?_
      exact ret_vb hm.symm
    · have e1 : decide ((cs.length : Int) < 1) = false := decide_eq_false h1
      have e2 : decide (200 < (cs.length : Int)) = true := decide_eq_true (by omega)
      repeat' first
        | refine Z1 ?_ | refine Z2 ?_ | refine Z5 ?_ | refine Z7 ?_ | refine Zd ?_ | refine Zh ?_ | refine Zi ?_ | refine Zm ?_ | refine Zo ?_ | refine ok_seq ?_ | refine Zp ?_ | refine ok_ret ?_ | refine x_ret_then ?_ | refine Zt ?_
      exact ret_vb hm.symm
  have e1 : decide ((cs.length : Int) < 1) = false := decide_eq_false (by omega)
  have e2 : decide (200 < (cs.length : Int)) = false := decide_eq_false (by omega)
  rw [if_neg hb] at hm
  repeat' first
    | refine Z1 ?_ | refine Z2 ?_ | refine Z5 ?_ | refine Z7 ?_ | refine Zd ?_ | refine Zh ?_ | refine Zi ?_ | refine Zm ?_ | refine Zo ?_ | refine ok_seq ?_ | refine Zq ?_ | refine ok_block ?_ | refine ok_skip ?_ | refine x_normal_then ?_
  refine ok_for (ι := Nat) (fun x => envL [(1, .ref 0 0), (20, vi cs.length), (21, vi x)]) (fun x => stL [some (.var [.d (.im (cs.map eCls))])]) (fun x => x ≤ cs.length ∧ ∀ j, j < x → classAt cs j = true) (fun x => cs.length - x) 0 (⟨Nat.zero_le _, fun j hj => by omega⟩) (weak_mk rfl ⟨.refl _, .refl _, .refl _, trivial⟩ ⟨⟨rfl, _, rfl, rfl, fun _ _ _ => .refl _⟩, trivial⟩) (fun _ => Nat.le_refl 1) ?_
  rintro k ⟨i1, i2⟩
  by_cases hk : k < cs.length
  · obtain ⟨c, hx⟩ : ∃ c, cs[k]? = some c := ⟨cs[k], List.getElem?_eq_getElem hk⟩
    have ek : decide ((k : Int) < (cs.length : Int)) = true := decide_eq_true (by omega)
    have hcls := sclass_ok cs k c hx hw
    have hca : classAt cs k = classS cs k c := by unfold classAt; rw [hx]
    cases hq : classS cs k c with
    | false =>
      have n1 : (!classS cs k c) = true := by rw [hq]; rfl
      have hf : (List.range cs.length).all (classAt cs) = false := by
        cases hz : (List.range cs.length).all (classAt cs) with
        | false => rfl
        | true => rw [← hq, (at_iff cs).1 hz k c hx]
      rw [if_pos hf] at hm
      repeat' first
        | refine Z1 ?_ | refine Z2 ?_ | refine Z5 ?_ | refine Zc (hcls) ?_ | refine Zo ?_ | refine ok_seq ?_ | refine Zp ?_ | refine ok_block ?_ | refine ok_skip ?_ | refine ok_ret ?_ | refine x_normal_then ?_ | refine x_ret_then ?_
        | refine x_ret_block ?_ | refine Zt ?_
      exact ret_vb hm.symm
    | true =>
      have n1 : (!classS cs k c) = false := by rw [hq]; rfl
      have hg : ∀ j, j < k + 1 → classAt cs j = true := by
        intro j hj
        rcases Nat.lt_or_ge j k with h | h
        · exact i2 j h
        · rw [show j = k by omega, hca, hq]
      repeat' first
        | refine Z1 ?_ | refine Z2 ?_ | refine Z5 ?_ | refine Zc (hcls) ?_ | refine Zf ?_ | refine Zo ?_ | refine ok_seq ?_ | refine ok_reg ?_ | refine Zp ?_ | refine Zq ?_ | refine ok_block ?_ | refine ok_skip ?_ | refine x_normal_then ?_
        | refine x_normal_block ?_
      exact ⟨k + 1, ⟨hk, hg⟩, by (try simp only); omega, low_mk (Nat.le_of_ble_eq_true rfl) ⟨⟨rfl, rfl⟩, ⟨rfl, rfl⟩, ⟨rfl, rfl⟩, trivial⟩ ⟨⟨rfl, rfl⟩, trivial⟩⟩
  have ek : decide ((k : Int) < (cs.length : Int)) = false := decide_eq_false (by omega)
  have hall : (List.range cs.length).all (classAt cs) = true := by
    rw [List.all_eq_true]
    intro j hj
    exact i2 j (by have := List.mem_range.1 hj; omega)
  rw [if_neg (by rw [hall]; simp)] at hm
  have hgd : ∀ (k : Nat) (c : Cls), cs[k]? = some c → goodC k c := fun k c hx => class_good ((at_iff cs).1 hall k c hx)
  have hcell := scells_ok cs hw (fun k c hx => (hgd k c hx).2.1)
  have hbnd := sbounds_ok cs hw hgd
  have hcn : (cellsS cs).length = cs.length := by unfold cellsS; rw [cellsGo_len]; simp
  have hbn : (boundsS cs).length = cs.length := by unfold boundsS; rw [boundsGo_len]; simp
  repeat' first
    | refine Z1 ?_ | refine Z2 ?_ | refine Z5 ?_ | refine Zc (hcell) ?_ | refine Zd ?_ | refine Zo ?_ | refine ok_seq ?_ | refine Zq ?_ | refine ok_block ?_ | refine ok_exit ?_ | refine x_normal_then ?_ | refine x_exit_here ?_ | refine Zv ?_
  refine ok_for (ι := Nat) (fun x => envL [(1, .ref 0 0), (30, .d (.im ((cellsS cs).map eNum))), (31, vi (cellsS cs).length), (32, vi x)]) (fun x => stL [some (.var [.d (.im (cs.map eCls))])]) (fun x => x ≤ (cellsS cs).length ∧ ((cellsS cs).drop x).all (fun z => decide (z ≤ 20000)) = (cellsS cs).all (fun z => decide (z ≤ 20000))) (fun x => (cellsS cs).length - x) 0 (⟨Nat.zero_le _, rfl⟩) (weak_mk rfl ⟨.refl _, .refl _, .refl _, .refl _, trivial⟩ ⟨⟨rfl, _, rfl, rfl, fun _ _ _ => .refl _⟩, trivial⟩) (fun _ => Nat.le_refl 1) ?_
  rintro x ⟨i1, i2⟩
  rcases hx : (cellsS cs)[x]? with _ | v
  rotate_left
  · obtain ⟨hd, hlt⟩ := drop_some hx
    have ek : decide ((x : Int) < ((cellsS cs).length : Int)) = true := decide_eq_true (by omega)
    obtain ⟨a1, a2⟩ := all_of i2 hx
    by_cases t1 : 20000 < v
    · have u1 : decide (20000 < v) = true := decide_eq_true t1
      rw [if_pos (a1 (decide_eq_false (by omega)))] at hm
      repeat' first
        | refine Z1 ?_ | refine Z2 ?_ | refine Z5 ?_ | refine Ze ?_ | refine Zo ?_ | refine ok_seq ?_ | refine Zp ?_ | refine ok_block ?_ | refine ok_skip ?_ | refine ok_ret ?_ | refine x_normal_then ?_ | refine x_ret_then ?_
        | refine x_ret_block ?_ | refine Zt ?_
      exact ret_vb hm.symm
    · have u1 : decide (20000 < v) = false := decide_eq_false t1
      repeat' first
        | refine Z1 ?_ | refine Z2 ?_ | refine Z5 ?_ | refine Ze ?_ | refine Zf ?_ | refine Zo ?_ | refine ok_seq ?_ | refine ok_reg ?_ | refine Zp ?_ | refine Zq ?_ | refine ok_block ?_ | refine ok_skip ?_ | refine x_normal_then ?_
        | refine x_normal_block ?_
      exact ⟨x + 1, ⟨hlt, a2 (decide_eq_true (by omega))⟩, by (try simp only); omega, low_mk (Nat.le_of_ble_eq_true rfl) ⟨⟨rfl, rfl⟩, ⟨rfl, rfl⟩, ⟨rfl, rfl⟩, ⟨rfl, rfl⟩, trivial⟩ ⟨⟨rfl, rfl⟩, trivial⟩⟩
  have hle := none_le hx
  have ek : decide ((x : Int) < ((cellsS cs).length : Int)) = false := decide_eq_false (by omega)
  rw [drop_none hx] at i2
  rw [if_neg (by rw [← i2]; simp)] at hm
  repeat' first
    | refine Z1 ?_ | refine Z2 ?_ | refine Z5 ?_ | refine Zc (hbnd) ?_ | refine Zd ?_ | refine Zo ?_ | refine ok_seq ?_ | refine Zq ?_ | refine ok_block ?_ | refine ok_exit ?_ | refine x_normal_then ?_ | refine x_exit_here ?_ | refine Zv ?_
  refine ok_for (ι := Nat) (fun x => envL [(1, .ref 0 0), (40, .d (.im ((boundsS cs).map eNum))), (41, vi (boundsS cs).length), (42, vi x)]) (fun x => stL [some (.var [.d (.im (cs.map eCls))])]) (fun x => x ≤ (boundsS cs).length ∧ ((boundsS cs).drop x).all (fun z => decide (z ≤ 400000)) = (boundsS cs).all (fun z => decide (z ≤ 400000))) (fun x => (boundsS cs).length - x) 0 (⟨Nat.zero_le _, rfl⟩) (weak_mk rfl ⟨.refl _, .refl _, .refl _, .refl _, trivial⟩ ⟨⟨rfl, _, rfl, rfl, fun _ _ _ => .refl _⟩, trivial⟩) (fun _ => Nat.le_refl 1) ?_
  rintro x ⟨i1, i2⟩
  rcases hx : (boundsS cs)[x]? with _ | v
  rotate_left
  · obtain ⟨hd, hlt⟩ := drop_some hx
    have ek : decide ((x : Int) < ((boundsS cs).length : Int)) = true := decide_eq_true (by omega)
    obtain ⟨a1, a2⟩ := all_of i2 hx
    by_cases t1 : 400000 < v
    · have u1 : decide (400000 < v) = true := decide_eq_true t1
      have hm := hm.trans (a1 (decide_eq_false (by omega)))
      repeat' first
        | refine Z1 ?_ | refine Z2 ?_ | refine Z5 ?_ | refine Ze ?_ | refine Zo ?_ | refine ok_seq ?_ | refine Zp ?_ | refine ok_block ?_ | refine ok_skip ?_ | refine ok_ret ?_ | refine x_normal_then ?_ | refine x_ret_then ?_
        | refine x_ret_block ?_ | refine Zt ?_
      exact ret_vb hm.symm
    · have u1 : decide (400000 < v) = false := decide_eq_false t1
      repeat' first
        | refine Z1 ?_ | refine Z2 ?_ | refine Z5 ?_ | refine Ze ?_ | refine Zf ?_ | refine Zo ?_ | refine ok_seq ?_ | refine ok_reg ?_ | refine Zp ?_ | refine Zq ?_ | refine ok_block ?_ | refine ok_skip ?_ | refine x_normal_then ?_
        | refine x_normal_block ?_
      exact ⟨x + 1, ⟨hlt, a2 (decide_eq_true (by omega))⟩, by (try simp only); omega, low_mk (Nat.le_of_ble_eq_true rfl) ⟨⟨rfl, rfl⟩, ⟨rfl, rfl⟩, ⟨rfl, rfl⟩, ⟨rfl, rfl⟩, trivial⟩ ⟨⟨rfl, rfl⟩, trivial⟩⟩
  have hle := none_le hx
  have ek : decide ((x : Int) < ((boundsS cs).length : Int)) = false := decide_eq_false (by omega)
  rw [drop_none hx] at i2
  have i2 : true = (boundsS cs).all (fun z => decide (z ≤ 400000)) := i2
  rw [← i2] at hm
  repeat' first
    | refine Z1 ?_ | refine Z2 ?_ | refine Zo ?_ | refine ok_seq ?_ | refine Zq ?_ | refine ok_exit ?_ | refine ok_ret ?_ | refine x_normal_then ?_ | refine x_exit_here ?_ | refine Zv ?_ | refine Zt ?_
  exact ret_vb hm.symm
theorem mok_ok (cs : List Cls) (hw : wL wCls cs ≤ 1048576) : PFun X 17 [.agg [.d (.im (cs.map eCls))]] (vb (mokS cs)) := by
  obtain ⟨m1, m2⟩ := m_eq cs
  have hms := measured_ok cs hw
  refine pfun_of Tryd.func17 rfl (by decide) Tryd.ntmps17 Tryd.results17 (by simp) rfl rfl ?_
  cases hq : mokS cs with
  | true =>
    rw [m1 hq] at hms
    repeat' first
      | refine Z1 ?_ | refine Z2 ?_ | refine Z5 ?_ | refine Zc (hms) ?_ | refine Zo ?_ | refine ok_ret ?_ | refine Zt ?_
    rfl
  | false =>
    rw [m2 hq] at hms
    repeat' first
      | refine Z1 ?_ | refine Z2 ?_ | refine Z5 ?_ | refine Zc (hms) ?_ | refine Zo ?_ | refine ok_ret ?_ | refine Zt ?_
    rfl
end Go.Pm
/- Machines: has the machine this class? -/
set_option linter.unusedVariables false
set_option linter.unusedSimpArgs false
namespace Go.Pm
attribute [local irreducible] AR Ok inBlock andThen endQ aoper
set_option maxHeartbeats 4000000
open Go.Proofs
theorem mok_good {cs : List Cls} (h : mokS cs = true) : ∀ (k : Nat) (c : Cls), cs[k]? = some c → goodC k c := by
  unfold mokS at h
  split at h
  · cases h
  · split at h
    · cases h
    · rename_i h2
      intro k c hx
      exact class_good ((at_iff cs).1 (by simpa using h2) k c hx)
def hasS (cs : List Cls) (n : Int) : Bool := mokS cs && decide (0 ≤ n) && decide (n < (cs.length : Int))
theorem shas_ok (cs : List Cls) (n : Int) (hw : wL wCls cs ≤ 1048576) : PFun X 14 [.agg [.d (.im (cs.map eCls))], vi n] (vb (hasS cs n)) := by
  refine pfun_of Tryd.func14 rfl (by decide) Tryd.ntmps14 Tryd.results14 (by simp) rfl rfl ?_
  cases h1 : mokS cs with
  | false =>
    repeat' first
      | refine Z1 ?_ | refine Z2 ?_ | refine Z3 ?_ | refine Z4 ?_ | refine Z5 ?_ | refine Z6 ?_ | refine Z7 ?_ | refine Z8 ?_ | refine Z9 ?_ | refine Za (fun hc => ?_) (fun hc => ?_) | refine Zb (fun hc => ?_) (fun hc => ?_)
      | refine Zc (smok_ok cs hw) ?_ | refine Zd ?_ | refine Ze ?_ | refine Zf ?_ | refine Zg ?_ | refine Zh ?_ | refine Zi ?_ | refine Zj ?_ | refine Zk ?_ | refine Zl ?_ | refine Zm ?_ | refine Zn (fun hc => ?_) (fun hc => ?_)
      | refine Zo ?_ | refine ok_seq ?_ | refine ok_reg ?_ | refine Zp ?_ | refine Zq ?_ | refine Zr (fun hc => ?_) (fun hc => ?_) | refine ok_block ?_ | refine ok_exit ?_ | refine ok_skip ?_ | refine ok_ret ?_ | refine x_normal_then ?_
      | refine x_exit_here ?_ | refine Zs ?_ | refine Zv ?_ | refine x_ret_then ?_ | refine x_ret_block ?_ | refine x_normal_block ?_ | refine Zt ?_ | refine Zu ?_
    exact ret_vb (by rw [hasS, h1]; rfl)
  | true =>
    cases h2 : decide (0 ≤ n) with
    | false =>
      repeat' first
        | refine Z1 ?_ | refine Z2 ?_ | refine Z3 ?_ | refine Z4 ?_ | refine Z5 ?_ | refine Z6 ?_ | refine Z7 ?_ | refine Z8 ?_ | refine Z9 ?_ | refine Za (fun hc => ?_) (fun hc => ?_) | refine Zb (fun hc => ?_) (fun hc => ?_)
        | refine Zc (smok_ok cs hw) ?_ | refine Zd ?_ | refine Ze ?_ | refine Zf ?_ | refine Zg ?_ | refine Zh ?_ | refine Zi ?_ | refine Zj ?_ | refine Zk ?_ | refine Zl ?_ | refine Zm ?_ | refine Zn (fun hc => ?_) (fun hc => ?_)
        | refine Zo ?_ | refine ok_seq ?_ | refine ok_reg ?_ | refine Zp ?_ | refine Zq ?_ | refine Zr (fun hc => ?_) (fun hc => ?_) | refine ok_block ?_ | refine ok_exit ?_ | refine ok_skip ?_ | refine ok_ret ?_ | refine x_normal_then ?_
        | refine x_exit_here ?_ | refine Zs ?_ | refine Zv ?_ | refine x_ret_then ?_ | refine x_ret_block ?_ | refine x_normal_block ?_ | refine Zt ?_ | refine Zu ?_
      exact ret_vb (by rw [hasS, h1, h2]; rfl)
    | true =>
      repeat' first
        | refine Z1 ?_ | refine Z2 ?_ | refine Z3 ?_ | refine Z4 ?_ | refine Z5 ?_ | refine Z6 ?_ | refine Z7 ?_ | refine Z8 ?_ | refine Z9 ?_ | refine Za (fun hc => ?_) (fun hc => ?_) | refine Zb (fun hc => ?_) (fun hc => ?_)
        | refine Zc (smok_ok cs hw) ?_ | refine Zd ?_ | refine Ze ?_ | refine Zf ?_ | refine Zg ?_ | refine Zh ?_ | refine Zi ?_ | refine Zj ?_ | refine Zk ?_ | refine Zl ?_ | refine Zm ?_ | refine Zn (fun hc => ?_) (fun hc => ?_)
        | refine Zo ?_ | refine ok_seq ?_ | refine ok_reg ?_ | refine Zp ?_ | refine Zq ?_ | refine Zr (fun hc => ?_) (fun hc => ?_) | refine ok_block ?_ | refine ok_exit ?_ | refine ok_skip ?_ | refine ok_ret ?_ | refine x_normal_then ?_
        | refine x_exit_here ?_ | refine Zs ?_ | refine Zv ?_ | refine x_ret_then ?_ | refine x_ret_block ?_ | refine x_normal_block ?_ | refine Zt ?_ | refine Zu ?_
      exact ret_vb (by rw [hasS, h1, h2]; rfl)
theorem has_f {cs : List Cls} {n : Int} (h : n < 0 ∨ (cs.length : Int) ≤ n) : hasS cs n = false := by
  unfold hasS
  rcases h with h | h
  · rw [decide_eq_false (show ¬ 0 ≤ n by omega)]; simp
  · rw [decide_eq_false (show ¬ n < (cs.length : Int) by omega)]; simp
theorem has_t {cs : List Cls} {n : Int} (hm : mokS cs = true) (h0 : 0 ≤ n) (h1 : n < (cs.length : Int)) : hasS cs n = true := by
  unfold hasS
  rw [hm, decide_eq_true h0, decide_eq_true h1]; rfl
theorem has_split {cs : List Cls} {n : Int} (h : hasS cs n = true) : mokS cs = true ∧ ∃ k : Nat, n = (k : Int) ∧ k < cs.length := by
  simp only [hasS, Bool.and_eq_true, decide_eq_true_eq] at h
  exact ⟨h.1.1, n.toNat, by omega, by omega⟩
end Go.Pm
/- The laws' copies, as trees of a box: a copy owns all that it is made of (printed by gen_own.py). -/
set_option linter.unusedVariables false
set_option linter.unusedSimpArgs false
namespace Go.Pm
attribute [local irreducible] AR Ok inBlock andThen endQ aoper
set_option maxHeartbeats 1000000
open Go.Proofs
abbrev shStr : List Sh := [.w]
abbrev shNum : List Sh := [.w]
abbrev shItm : List Sh := [.w, .w, .w]
abbrev shSlt : List Sh := [.w, .w]
abbrev shItms : List Sh := [.im 119 shItm]
abbrev shSm : List Sh := [.w, .w, .w, .im 9 shStr, .im 119 shItm, .im 81 shItms]
abbrev shCls : List Sh := [.w, .im 79 shSlt, .im 79 shSlt, .im 9 shStr, .im 3 shNum, .im 3 shNum, .im 84 shSm]
def vStr (x : ByteArray) : List Value := [.string x]
theorem vStr_agr (x : ByteArray) : agr shStr (eStr x) (vStr x) := by simp [agr, eStr, vStr]
theorem shStr_words : Words shStr := words_cons (words_nil)
def vNum (x : Int) : List Value := [.int .i64 x]
theorem vNum_agr (x : Int) : agr shNum (eNum x) (vNum x) := by simp [agr, eNum, vNum]
theorem shNum_words : Words shNum := words_cons (words_nil)
def vItm (x : Itm) : List Value := [.int .i64 x.op, .int .i64 x.val, .string x.name]
theorem vItm_agr (x : Itm) : agr shItm (eItm x) (vItm x) := by simp [agr, eItm, vItm]
theorem shItm_words : Words shItm := words_cons (words_cons (words_cons (words_nil)))
def vSlt (x : Slt) : List Value := [.string x.name, .int .i64 x.type]
theorem vSlt_agr (x : Slt) : agr shSlt (eSlt x) (vSlt x) := by simp [agr, eSlt, vSlt]
theorem shSlt_words : Words shSlt := words_cons (words_cons (words_nil))
theorem toStringS_own (l : List (ByteArray)) (hw : wL (wStr) l ≤ 1048576) {τ : FH} {L : List (Sh × D × Value)} (hT : Tr τ L) :
    BFun X 38 [.d (.im (l.map eStr))] τ fun A τ' => ∃ u, A = .ret (.d (.s u)) ∧ Tr τ' ((.im 9 shStr, .im (l.map eStr), u) :: L) := by
  simp only [wL] at hw
  refine BFun.row rfl ?_
  refine afun_of Tryd.func38 rfl (by decide) Tryd.ntmps38 Tryd.results38 (by simp) ?_
  repeat' first
    | refine Z1 ?_ | refine Z2 ?_ | refine Z5 ?_ | refine op_make (k := l.length) rfl rfl (by omega) rfl rfl rfl rfl rfl rfl ?_ | refine Zd ?_ | refine Zo ?_ | refine ok_seq ?_ | refine ok_block ?_
  refine ok_for (ι := Nat) (fun x => envL [(0, .d (.im (l.map eStr))), (3, .sl 1 1 0 l.length), (4, vi x)]) (fun x => stL [some (.box τ), some (.row 1 9 1 (trk eStr l x [.d (.s (.string .empty))]))]) (fun x => x ≤ l.length) (fun x => l.length - x) 0 (Nat.zero_le _) (weak_mk rfl ⟨.refl _, .refl _, .refl _, trivial⟩ ⟨⟨rfl, _, rfl, rfl⟩, ⟨rfl, _, rfl, rfl, rfl, rfl, rfl⟩, trivial⟩) (fun _ => Nat.le_refl 2) ?_
  intro k i1
  rcases hx : l[k]? with _ | x
  · have hle := none_le hx
    have ek : decide ((k : Int) < (l.length : Int)) = false := decide_eq_false (by omega)
    repeat' first
      | refine Z1 ?_ | refine Z2 ?_ | refine Z5 ?_ | refine Zd ?_ | refine Zo ?_ | refine ok_seq ?_ | refine Zq ?_ | refine ok_exit ?_ | refine ok_ret ?_ | refine x_normal_then ?_ | refine x_exit_here ?_ | refine Zv ?_ | refine Zt ?_
    refine ⟨τ, 1, 1, l.map vStr, by simp, rfl, ?_, agrs_words vStr_agr l, by rw [subss_nil shStr_words]; exact hT⟩
    show some (AO.row 1 _ _ (trk _ _ _ _)) = _
    rw [trk_all hle, im2_exR (v := vStr) (fun x => rfl)]; rfl
  · obtain ⟨hdr, hlt⟩ := drop_some hx
    have hwx := wL_mem (w := wStr) (List.mem_of_getElem? hx)
    have ek : decide ((k : Int) < (l.length : Int)) = true := decide_eq_true (by omega)
    repeat' first
      | refine Z1 ?_ | refine Z2 ?_ | refine Z3 ?_ | refine Z5 ?_ | refine op_place rfl rfl hlt rfl rfl rfl rfl ?_ | refine op_putk hx rfl rfl rfl rfl rfl rfl rfl rfl ?_ | refine Zd ?_ | refine Ze ?_ | refine Zf ?_ | refine Zo ?_
      | refine ok_seq ?_ | refine ok_reg ?_ | refine Zp ?_ | refine ok_block ?_ | refine ok_skip ?_ | refine x_normal_then ?_ | refine x_normal_block ?_
    exact ⟨k + 1, hlt, by (try simp only); omega, low_mk (Nat.le_of_ble_eq_true rfl) ⟨⟨rfl, rfl⟩, ⟨rfl, rfl⟩, ⟨rfl, rfl⟩, trivial⟩ ⟨⟨rfl, trivial⟩, ⟨rfl, blt_lt rfl, trk_low _ _ _ _ rfl⟩, trivial⟩⟩

theorem toIntS_own (l : List (Int)) (hw : wL (wNum0) l ≤ 1048576) {τ : FH} {L : List (Sh × D × Value)} (hT : Tr τ L) :
    BFun X 39 [.d (.im (l.map eNum))] τ fun A τ' => ∃ u, A = .ret (.d (.s u)) ∧ Tr τ' ((.im 3 shNum, .im (l.map eNum), u) :: L) := by
  simp only [wL] at hw
  refine BFun.row rfl ?_
  refine afun_of Tryd.func39 rfl (by decide) Tryd.ntmps39 Tryd.results39 (by simp) ?_
  repeat' first
    | refine Z1 ?_ | refine Z2 ?_ | refine Z5 ?_ | refine op_make (k := l.length) rfl rfl (by omega) rfl rfl rfl rfl rfl rfl ?_ | refine Zd ?_ | refine Zo ?_ | refine ok_seq ?_ | refine ok_block ?_
  refine ok_for (ι := Nat) (fun x => envL [(0, .d (.im (l.map eNum))), (3, .sl 1 1 0 l.length), (4, vi x)]) (fun x => stL [some (.box τ), some (.row 1 3 1 (trk eNum l x [.d (.s (.int .i64 0))]))]) (fun x => x ≤ l.length) (fun x => l.length - x) 0 (Nat.zero_le _) (weak_mk rfl ⟨.refl _, .refl _, .refl _, trivial⟩ ⟨⟨rfl, _, rfl, rfl⟩, ⟨rfl, _, rfl, rfl, rfl, rfl, rfl⟩, trivial⟩) (fun _ => Nat.le_refl 2) ?_
  intro k i1
  rcases hx : l[k]? with _ | x
  · have hle := none_le hx
    have ek : decide ((k : Int) < (l.length : Int)) = false := decide_eq_false (by omega)
    repeat' first
      | refine Z1 ?_ | refine Z2 ?_ | refine Z5 ?_ | refine Zd ?_ | refine Zo ?_ | refine ok_seq ?_ | refine Zq ?_ | refine ok_exit ?_ | refine ok_ret ?_ | refine x_normal_then ?_ | refine x_exit_here ?_ | refine Zv ?_ | refine Zt ?_
    refine ⟨τ, 1, 1, l.map vNum, by simp, rfl, ?_, agrs_words vNum_agr l, by rw [subss_nil shNum_words]; exact hT⟩
    show some (AO.row 1 _ _ (trk _ _ _ _)) = _
    rw [trk_all hle, im2_exR (v := vNum) (fun x => rfl)]; rfl
  · obtain ⟨hdr, hlt⟩ := drop_some hx
    have hwx := wL_mem (w := wNum0) (List.mem_of_getElem? hx)
    have ek : decide ((k : Int) < (l.length : Int)) = true := decide_eq_true (by omega)
    repeat' first
      | refine Z1 ?_ | refine Z2 ?_ | refine Z3 ?_ | refine Z5 ?_ | refine op_place rfl rfl hlt rfl rfl rfl rfl ?_ | refine op_putk hx rfl rfl rfl rfl rfl rfl rfl rfl ?_ | refine Zd ?_ | refine Ze ?_ | refine Zf ?_ | refine Zo ?_
      | refine ok_seq ?_ | refine ok_reg ?_ | refine Zp ?_ | refine ok_block ?_ | refine ok_skip ?_ | refine x_normal_then ?_ | refine x_normal_block ?_
    exact ⟨k + 1, hlt, by (try simp only); omega, low_mk (Nat.le_of_ble_eq_true rfl) ⟨⟨rfl, rfl⟩, ⟨rfl, rfl⟩, ⟨rfl, rfl⟩, trivial⟩ ⟨⟨rfl, trivial⟩, ⟨rfl, blt_lt rfl, trk_low _ _ _ _ rfl⟩, trivial⟩⟩

theorem toItemS_own (l : List (Itm)) (hw : wL (wItm) l ≤ 1048576) {τ : FH} {L : List (Sh × D × Value)} (hT : Tr τ L) :
    BFun X 80 [.d (.im (l.map eItm))] τ fun A τ' => ∃ u, A = .ret (.d (.s u)) ∧ Tr τ' ((.im 119 shItm, .im (l.map eItm), u) :: L) := by
  simp only [wL] at hw
  refine BFun.row rfl ?_
  refine afun_of Tryd.func80 rfl (by decide) Tryd.ntmps80 Tryd.results80 (by simp) ?_
  repeat' first
    | refine Z1 ?_ | refine Z2 ?_ | refine Z5 ?_ | refine op_make (k := l.length) rfl rfl (by omega) rfl rfl rfl rfl rfl rfl ?_ | refine Zd ?_ | refine Zo ?_ | refine ok_seq ?_ | refine ok_block ?_
  refine ok_for (ι := Nat) (fun x => envL [(0, .d (.im (l.map eItm))), (3, .sl 1 1 0 l.length), (4, vi x)]) (fun x => stL [some (.box τ), some (.row 1 119 3 (trk eItm l x [.d (.s (.int .i64 0)), .d (.s (.int .i64 0)), .d (.s (.string .empty))]))]) (fun x => x ≤ l.length) (fun x => l.length - x) 0 (Nat.zero_le _) (weak_mk rfl ⟨.refl _, .refl _, .refl _, trivial⟩ ⟨⟨rfl, _, rfl, rfl⟩, ⟨rfl, _, rfl, rfl, rfl, rfl, rfl⟩, trivial⟩) (fun _ => Nat.le_refl 2) ?_
  intro k i1
  rcases hx : l[k]? with _ | x
  · have hle := none_le hx
    have ek : decide ((k : Int) < (l.length : Int)) = false := decide_eq_false (by omega)
    repeat' first
      | refine Z1 ?_ | refine Z2 ?_ | refine Z5 ?_ | refine Zd ?_ | refine Zo ?_ | refine ok_seq ?_ | refine Zq ?_ | refine ok_exit ?_ | refine ok_ret ?_ | refine x_normal_then ?_ | refine x_exit_here ?_ | refine Zv ?_ | refine Zt ?_
    refine ⟨τ, 1, 1, l.map vItm, by simp, rfl, ?_, agrs_words vItm_agr l, by rw [subss_nil shItm_words]; exact hT⟩
    show some (AO.row 1 _ _ (trk _ _ _ _)) = _
    rw [trk_all hle, im2_exR (v := vItm) (fun x => rfl)]; rfl
  · obtain ⟨hdr, hlt⟩ := drop_some hx
    have hwx := wL_mem (w := wItm) (List.mem_of_getElem? hx)
    have ek : decide ((k : Int) < (l.length : Int)) = true := decide_eq_true (by omega)
    repeat' first
      | refine Z1 ?_ | refine Z2 ?_ | refine Z3 ?_ | refine Z5 ?_ | refine op_place rfl rfl hlt rfl rfl rfl rfl ?_ | refine op_putk hx rfl rfl rfl rfl rfl rfl rfl rfl ?_ | refine Zc (toItem_ok x (by omega)) ?_ | refine Zd ?_ | refine Ze ?_
      | refine Zf ?_ | refine Zo ?_ | refine ok_seq ?_ | refine ok_reg ?_ | refine Zp ?_ | refine ok_block ?_ | refine ok_skip ?_ | refine x_normal_then ?_ | refine x_normal_block ?_
    exact ⟨k + 1, hlt, by (try simp only); omega, low_mk (Nat.le_of_ble_eq_true rfl) ⟨⟨rfl, rfl⟩, ⟨rfl, rfl⟩, ⟨rfl, rfl⟩, trivial⟩ ⟨⟨rfl, trivial⟩, ⟨rfl, blt_lt rfl, trk_low _ _ _ _ rfl⟩, trivial⟩⟩

theorem toSlotS_own (l : List (Slt)) (hw : wL (wSlt) l ≤ 1048576) {τ : FH} {L : List (Sh × D × Value)} (hT : Tr τ L) :
    BFun X 37 [.d (.im (l.map eSlt))] τ fun A τ' => ∃ u, A = .ret (.d (.s u)) ∧ Tr τ' ((.im 79 shSlt, .im (l.map eSlt), u) :: L) := by
  simp only [wL] at hw
  refine BFun.row rfl ?_
  refine afun_of Tryd.func37 rfl (by decide) Tryd.ntmps37 Tryd.results37 (by simp) ?_
  repeat' first
    | refine Z1 ?_ | refine Z2 ?_ | refine Z5 ?_ | refine op_make (k := l.length) rfl rfl (by omega) rfl rfl rfl rfl rfl rfl ?_ | refine Zd ?_ | refine Zo ?_ | refine ok_seq ?_ | refine ok_block ?_
  refine ok_for (ι := Nat) (fun x => envL [(0, .d (.im (l.map eSlt))), (3, .sl 1 1 0 l.length), (4, vi x)]) (fun x => stL [some (.box τ), some (.row 1 79 2 (trk eSlt l x [.d (.s (.string .empty)), .d (.s (.int .i64 0))]))]) (fun x => x ≤ l.length) (fun x => l.length - x) 0 (Nat.zero_le _) (weak_mk rfl ⟨.refl _, .refl _, .refl _, trivial⟩ ⟨⟨rfl, _, rfl, rfl⟩, ⟨rfl, _, rfl, rfl, rfl, rfl, rfl⟩, trivial⟩) (fun _ => Nat.le_refl 2) ?_
  intro k i1
  rcases hx : l[k]? with _ | x
  · have hle := none_le hx
    have ek : decide ((k : Int) < (l.length : Int)) = false := decide_eq_false (by omega)
    repeat' first
      | refine Z1 ?_ | refine Z2 ?_ | refine Z5 ?_ | refine Zd ?_ | refine Zo ?_ | refine ok_seq ?_ | refine Zq ?_ | refine ok_exit ?_ | refine ok_ret ?_ | refine x_normal_then ?_ | refine x_exit_here ?_ | refine Zv ?_ | refine Zt ?_
    refine ⟨τ, 1, 1, l.map vSlt, by simp, rfl, ?_, agrs_words vSlt_agr l, by rw [subss_nil shSlt_words]; exact hT⟩
    show some (AO.row 1 _ _ (trk _ _ _ _)) = _
    rw [trk_all hle, im2_exR (v := vSlt) (fun x => rfl)]; rfl
  · obtain ⟨hdr, hlt⟩ := drop_some hx
    have hwx := wL_mem (w := wSlt) (List.mem_of_getElem? hx)
    have ek : decide ((k : Int) < (l.length : Int)) = true := decide_eq_true (by omega)
    repeat' first
      | refine Z1 ?_ | refine Z2 ?_ | refine Z3 ?_ | refine Z5 ?_ | refine op_place rfl rfl hlt rfl rfl rfl rfl ?_ | refine op_putk hx rfl rfl rfl rfl rfl rfl rfl rfl ?_ | refine Zc (toSlot_ok x (by omega)) ?_ | refine Zd ?_ | refine Ze ?_
      | refine Zf ?_ | refine Zo ?_ | refine ok_seq ?_ | refine ok_reg ?_ | refine Zp ?_ | refine ok_block ?_ | refine ok_skip ?_ | refine x_normal_then ?_ | refine x_normal_block ?_
    exact ⟨k + 1, hlt, by (try simp only); omega, low_mk (Nat.le_of_ble_eq_true rfl) ⟨⟨rfl, rfl⟩, ⟨rfl, rfl⟩, ⟨rfl, rfl⟩, trivial⟩ ⟨⟨rfl, trivial⟩, ⟨rfl, blt_lt rfl, trk_low _ _ _ _ rfl⟩, trivial⟩⟩

theorem toItemSS_own (l : List (List Itm)) (hw : wL (wL wItm) l ≤ 1048576) {τ : FH} {L : List (Sh × D × Value)} (hT : Tr τ L) :
    BFun X 81 [.d (.im (l.map eItms))] τ fun A τ' => ∃ u, A = .ret (.d (.s u)) ∧ Tr τ' ((.im 81 shItms, .im (l.map eItms), u) :: L) := by
  simp only [wL] at hw
  refine BFun.row rfl ?_
  refine afun_of Tryd.func81 rfl (by decide) Tryd.ntmps81 Tryd.results81 (by simp) ?_
  repeat' first
    | refine Z1 ?_ | refine Z2 ?_ | refine Z5 ?_ | refine op_make (k := l.length) rfl rfl (by omega) rfl rfl rfl rfl rfl rfl ?_ | refine Zd ?_ | refine Zo ?_ | refine ok_seq ?_ | refine ok_block ?_
  refine ok_for (ι := Nat × List (List Value) × FH) (fun x_ => envL [(0, .d (.im (l.map eItms))), (3, .sl 1 1 0 l.length), (4, vi x_.1)]) (fun x_ => stL [some (.box x_.2.2), some (.row 1 81 1 (trv x_.2.1 (l.length - x_.1) [.d (.s (.slice none 0 0))]))]) (fun x_ => x_.1 ≤ l.length ∧ x_.2.1.length = x_.1 ∧ agrs shItms ((l.take x_.1).map eItms) x_.2.1 ∧ Tr x_.2.2 (subss shItms ((l.take x_.1).map eItms) x_.2.1 ++ L)) (fun x_ => l.length - x_.1) (0, [], τ) (⟨Nat.zero_le _, rfl, trivial, hT⟩) (weak_mk rfl ⟨.refl _, .refl _, .refl _, trivial⟩ ⟨⟨rfl, _, rfl, rfl⟩, ⟨rfl, _, rfl, rfl, rfl, rfl, rfl⟩, trivial⟩) (fun _ => Nat.le_refl 2) ?_
  rintro ⟨k, V, τ1⟩ ⟨i1, i2, i3, i4⟩
  simp only at i1 i2 i3 i4
  rcases hx : l[k]? with _ | x
  · have hle := none_le hx
    have ek : decide ((k : Int) < (l.length : Int)) = false := decide_eq_false (by omega)
    repeat' first
      | refine Z1 ?_ | refine Z2 ?_ | refine Z5 ?_ | refine Zd ?_ | refine Zo ?_ | refine ok_seq ?_ | refine Zq ?_ | refine ok_exit ?_ | refine ok_ret ?_ | refine x_normal_then ?_ | refine x_exit_here ?_ | refine Zv ?_ | refine Zt ?_
    have e1 : l.take k = l := List.take_of_length_le hle
    rw [e1] at i3 i4
    refine ⟨τ1, 1, 1, V, by simp, rfl, ?_, i3, i4⟩
    show some (AO.row 1 _ _ (trv _ _ _)) = _
    rw [show l.length - k = 0 by omega, trv_zero]; rfl
  · obtain ⟨hdr, hlt⟩ := drop_some hx
    have hwx := wL_mem (w := wL wItm) (List.mem_of_getElem? hx)
    have ek : decide ((k : Int) < (l.length : Int)) = true := decide_eq_true (by omega)
    repeat' first
      | refine Z1 ?_ | refine Z2 ?_ | refine Z5 ?_ | refine Yxx ((toItemS_own x (by simp only [wL] at hwx ⊢; omega) i4).at (i := 0) rfl) ?_ | refine Zd ?_ | refine Ze ?_ | refine Zo ?_ | refine ok_seq ?_ | refine ok_reg ?_ | refine Zp ?_
      | refine ok_block ?_ | refine ok_skip ?_ | refine x_normal_then ?_
    rintro A σ2 ⟨τ2, ⟨u, rfl, t2⟩, rfl⟩
    obtain ⟨ua, un, uc, rfl⟩ := t2.sl
    refine ⟨_, rfl, ?_⟩
    have n3 : agrs shItms ((l.take (k + 1)).map eItms) (V ++ [[.slice ua un uc]]) := by rw [tk_push hx, List.map_append]; exact agrs_app i3 ⟨trivial, trivial⟩
    have n4 : Tr τ2 (subss shItms ((l.take (k + 1)).map eItms) (V ++ [[.slice ua un uc]]) ++ L) := by
      rw [tk_push hx, List.map_append, subss_app (by simp; omega)]
      refine t2.perm ?_
      show List.Perm _ ((_ ++ [(.im 119 shItm, .im (x.map eItm), .slice ua un uc)]) ++ L)
      rw [List.append_assoc]
      exact (List.perm_middle (l₁ := subss shItms ((l.take k).map eItms) V)).symm
    repeat' first
      | refine Z1 ?_ | refine Z2 ?_ | refine Z3 ?_ | refine Z5 ?_ | refine op_place rfl rfl hlt rfl rfl rfl rfl ?_ | refine op_putv (v := [.slice ua un uc]) i2 hlt rfl rfl rfl rfl rfl rfl rfl ?_ | refine Zf ?_ | refine ok_reg ?_
      | refine x_normal_then ?_ | refine x_normal_block ?_
    exact ⟨(k + 1, V ++ [[.slice ua un uc]], τ2), ⟨hlt, by simp [i2], n3, n4⟩, by (try simp only); omega, low_mk (Nat.le_of_ble_eq_true rfl) ⟨⟨rfl, rfl⟩, ⟨rfl, rfl⟩, ⟨rfl, rfl⟩, trivial⟩ ⟨⟨rfl, trivial⟩, ⟨rfl, blt_lt rfl, trv_low _ _ _ rfl⟩, trivial⟩⟩

theorem toStm_own (x : Sm) (hw : wSm x ≤ 1048576) {τ : FH} {L : List (Sh × D × Value)} (hT : Tr τ L) :
    BFun X 65 [.agg ((eSm x).map .d)] τ fun A τ' => ∃ v, A = .ret (.agg (v.map ex1)) ∧ agr shSm (eSm x) v ∧ (v.map ex1).all AV.one = true ∧ Tr τ' (subs shSm (eSm x) v ++ L) := by
  simp only [wSm, wL] at hw
  refine BFun.words rfl ?_
  refine afun_of Tryd.func65 rfl (by decide) Tryd.ntmps65 Tryd.results65 (by simp) ?_
  repeat' first
    | refine Z1 ?_ | refine Z2 ?_ | refine Z5 ?_ | refine Yxx ((toStringS_own x.outs (by simp only [wL]; omega) hT).at (i := 0) rfl) ?_ | refine Zo ?_
  rintro A σ2 ⟨τ1, ⟨u1, rfl, t1⟩, rfl⟩
  obtain ⟨ua1, un1, uc1, rfl⟩ := t1.sl
  refine ⟨_, rfl, ?_⟩
  repeat' first
    | refine Z1 ?_ | refine Z2 ?_ | refine Z5 ?_ | refine Yxx ((toItemS_own x.code (by simp only [wL]; omega) t1).at (i := 0) rfl) ?_ | refine Zo ?_
  rintro A σ2 ⟨τ2, ⟨u2, rfl, t2⟩, rfl⟩
  obtain ⟨ua2, un2, uc2, rfl⟩ := t2.sl
  refine ⟨_, rfl, ?_⟩
  repeat' first
    | refine Z1 ?_ | refine Z2 ?_ | refine Z5 ?_ | refine Yxx ((toItemSS_own x.args (by simp only [wL]; omega) t2).at (i := 0) rfl) ?_ | refine Zo ?_
  rintro A σ2 ⟨τ3, ⟨u3, rfl, t3⟩, rfl⟩
  obtain ⟨ua3, un3, uc3, rfl⟩ := t3.sl
  refine ⟨_, rfl, ?_⟩
  repeat' first
    | refine Z1 ?_ | refine Z2 ?_ | refine Zo ?_ | refine ok_ret ?_ | refine Zu ?_
  have oo : ([.int .i64 x.kind, .string x.name, .int .i64 x.pos, .slice ua1 un1 uc1, .slice ua2 un2 uc2, .slice ua3 un3 uc3].map ex1).all AV.one = true := by
    simp only [List.map_cons, List.map_nil, List.all_cons, List.all_nil, Bool.and_true, Bool.and_eq_true]
    exact ⟨rfl, rfl, rfl, rfl, rfl, rfl⟩
  refine ⟨τ3, ⟨[.int .i64 x.kind, .string x.name, .int .i64 x.pos, .slice ua1 un1 uc1, .slice ua2 un2 uc2, .slice ua3 un3 uc3], rfl, by simp [agr, eSm], oo, ?_⟩, rfl, _, rfl, rfl⟩
  refine t3.perm ?_
  exact List.Perm.append_right L (show List.Perm (α := Sh × D × Value) [(.im 81 shItms, .im (x.args.map eItms), .slice ua3 un3 uc3), (.im 119 shItm, .im (x.code.map eItm), .slice ua2 un2 uc2), (.im 9 shStr, .im (x.outs.map eStr), .slice ua1 un1 uc1)] [(.im 9 shStr, .im (x.outs.map eStr), .slice ua1 un1 uc1), (.im 119 shItm, .im (x.code.map eItm), .slice ua2 un2 uc2), (.im 81 shItms, .im (x.args.map eItms), .slice ua3 un3 uc3)] from List.reverse_perm (α := Sh × D × Value) [(.im 9 shStr, .im (x.outs.map eStr), .slice ua1 un1 uc1), (.im 119 shItm, .im (x.code.map eItm), .slice ua2 un2 uc2), (.im 81 shItms, .im (x.args.map eItms), .slice ua3 un3 uc3)])

theorem toStmS_own (l : List (Sm)) (hw : wL (wSm) l ≤ 1048576) {τ : FH} {L : List (Sh × D × Value)} (hT : Tr τ L) :
    BFun X 40 [.d (.im (l.map eSm))] τ fun A τ' => ∃ u, A = .ret (.d (.s u)) ∧ Tr τ' ((.im 84 shSm, .im (l.map eSm), u) :: L) := by
  simp only [wL] at hw
  refine BFun.row rfl ?_
  refine afun_of Tryd.func40 rfl (by decide) Tryd.ntmps40 Tryd.results40 (by simp) ?_
  repeat' first
    | refine Z1 ?_ | refine Z2 ?_ | refine Z5 ?_ | refine op_make (k := l.length) rfl rfl (by omega) rfl rfl rfl rfl rfl rfl ?_ | refine Zd ?_ | refine Zo ?_ | refine ok_seq ?_ | refine ok_block ?_
  refine ok_for (ι := Nat × List (List Value) × FH) (fun x_ => envL [(0, .d (.im (l.map eSm))), (3, .sl 1 1 0 l.length), (4, vi x_.1)]) (fun x_ => stL [some (.box x_.2.2), some (.row 1 84 6 (trv x_.2.1 (l.length - x_.1) [.d (.s (.int .i64 0)), .d (.s (.string .empty)), .d (.s (.int .i64 0)), .d (.s (.slice none 0 0)), .d (.s (.slice none 0 0)), .d (.s (.slice none 0 0))]))]) (fun x_ => x_.1 ≤ l.length ∧ x_.2.1.length = x_.1 ∧ agrs shSm ((l.take x_.1).map eSm) x_.2.1 ∧ Tr x_.2.2 (subss shSm ((l.take x_.1).map eSm) x_.2.1 ++ L)) (fun x_ => l.length - x_.1) (0, [], τ) (⟨Nat.zero_le _, rfl, trivial, hT⟩) (weak_mk rfl ⟨.refl _, .refl _, .refl _, trivial⟩ ⟨⟨rfl, _, rfl, rfl⟩, ⟨rfl, _, rfl, rfl, rfl, rfl, rfl⟩, trivial⟩) (fun _ => Nat.le_refl 2) ?_
  rintro ⟨k, V, τ1⟩ ⟨i1, i2, i3, i4⟩
  simp only at i1 i2 i3 i4
  rcases hx : l[k]? with _ | x
  · have hle := none_le hx
    have ek : decide ((k : Int) < (l.length : Int)) = false := decide_eq_false (by omega)
    repeat' first
      | refine Z1 ?_ | refine Z2 ?_ | refine Z5 ?_ | refine Zd ?_ | refine Zo ?_ | refine ok_seq ?_ | refine Zq ?_ | refine ok_exit ?_ | refine ok_ret ?_ | refine x_normal_then ?_ | refine x_exit_here ?_ | refine Zv ?_ | refine Zt ?_
    have e1 : l.take k = l := List.take_of_length_le hle
    rw [e1] at i3 i4
    refine ⟨τ1, 1, 1, V, by simp, rfl, ?_, i3, i4⟩
    show some (AO.row 1 _ _ (trv _ _ _)) = _
    rw [show l.length - k = 0 by omega, trv_zero]; rfl
  · obtain ⟨hdr, hlt⟩ := drop_some hx
    have hwx := wL_mem (w := wSm) (List.mem_of_getElem? hx)
    have ek : decide ((k : Int) < (l.length : Int)) = true := decide_eq_true (by omega)
    repeat' first
      | refine Z1 ?_ | refine Z2 ?_ | refine Z5 ?_ | refine Yxx ((toStm_own x (by omega) i4).at (i := 0) rfl) ?_ | refine Zd ?_ | refine Ze ?_ | refine Zo ?_ | refine ok_seq ?_ | refine ok_reg ?_ | refine Zp ?_ | refine ok_block ?_
      | refine ok_skip ?_ | refine x_normal_then ?_
    rintro A σ2 ⟨τ2, ⟨v, rfl, a2, o2, t2⟩, rfl⟩
    refine ⟨_, rfl, ?_⟩
    have n3 : agrs shSm ((l.take (k + 1)).map eSm) (V ++ [v]) := by rw [tk_push hx, List.map_append]; exact agrs_app i3 ⟨a2, trivial⟩
    have n4 : Tr τ2 (subss shSm ((l.take (k + 1)).map eSm) (V ++ [v]) ++ L) := by
      rw [tk_push hx, List.map_append, subss_app (by simp; omega)]
      refine t2.perm ?_
      show List.Perm _ ((_ ++ (subs shSm (eSm x) v ++ [])) ++ L)
      rw [List.append_nil, ← List.append_assoc]
      exact List.Perm.append_right _ List.perm_append_comm
    repeat' first
      | refine Z1 ?_ | refine Z2 ?_ | refine Z3 ?_ | refine Z5 ?_ | refine op_place rfl rfl hlt rfl rfl rfl rfl ?_ | refine op_putv (v := v) i2 hlt rfl rfl rfl (agr_len a2).2 o2 rfl rfl ?_ | refine Zf ?_ | refine ok_reg ?_
      | refine x_normal_then ?_ | refine x_normal_block ?_
    exact ⟨(k + 1, V ++ [v], τ2), ⟨hlt, by simp [i2], n3, n4⟩, by (try simp only); omega, low_mk (Nat.le_of_ble_eq_true rfl) ⟨⟨rfl, rfl⟩, ⟨rfl, rfl⟩, ⟨rfl, rfl⟩, trivial⟩ ⟨⟨rfl, trivial⟩, ⟨rfl, blt_lt rfl, trv_low _ _ _ rfl⟩, trivial⟩⟩

theorem toClass_own (x : Cls) (hw : wCls x ≤ 1048576) {τ : FH} {L : List (Sh × D × Value)} (hT : Tr τ L) :
    BFun X 23 [.agg ((eCls x).map .d)] τ fun A τ' => ∃ v, A = .ret (.agg (v.map ex1)) ∧ agr shCls (eCls x) v ∧ (v.map ex1).all AV.one = true ∧ Tr τ' (subs shCls (eCls x) v ++ L) := by
  simp only [wCls, wL] at hw
  refine BFun.words rfl ?_
  refine afun_of Tryd.func23 rfl (by decide) Tryd.ntmps23 Tryd.results23 (by simp) ?_
  repeat' first
    | refine Z1 ?_ | refine Z2 ?_ | refine Z5 ?_ | refine Yxx ((toSlotS_own x.ins (by simp only [wL]; omega) hT).at (i := 0) rfl) ?_ | refine Zo ?_
  rintro A σ2 ⟨τ1, ⟨u1, rfl, t1⟩, rfl⟩
  obtain ⟨ua1, un1, uc1, rfl⟩ := t1.sl
  refine ⟨_, rfl, ?_⟩
  repeat' first
    | refine Z1 ?_ | refine Z2 ?_ | refine Z5 ?_ | refine Yxx ((toSlotS_own x.outs (by simp only [wL]; omega) t1).at (i := 0) rfl) ?_ | refine Zo ?_
  rintro A σ2 ⟨τ2, ⟨u2, rfl, t2⟩, rfl⟩
  obtain ⟨ua2, un2, uc2, rfl⟩ := t2.sl
  refine ⟨_, rfl, ?_⟩
  repeat' first
    | refine Z1 ?_ | refine Z2 ?_ | refine Z5 ?_ | refine Yxx ((toStringS_own x.locs (by simp only [wL]; omega) t2).at (i := 0) rfl) ?_ | refine Zo ?_
  rintro A σ2 ⟨τ3, ⟨u3, rfl, t3⟩, rfl⟩
  obtain ⟨ua3, un3, uc3, rfl⟩ := t3.sl
  refine ⟨_, rfl, ?_⟩
  repeat' first
    | refine Z1 ?_ | refine Z2 ?_ | refine Z5 ?_ | refine Yxx ((toIntS_own x.mems (by simp only [wL]; omega) t3).at (i := 0) rfl) ?_ | refine Zo ?_
  rintro A σ2 ⟨τ4, ⟨u4, rfl, t4⟩, rfl⟩
  obtain ⟨ua4, un4, uc4, rfl⟩ := t4.sl
  refine ⟨_, rfl, ?_⟩
  repeat' first
    | refine Z1 ?_ | refine Z2 ?_ | refine Z5 ?_ | refine Yxx ((toIntS_own x.insts (by simp only [wL]; omega) t4).at (i := 0) rfl) ?_ | refine Zo ?_
  rintro A σ2 ⟨τ5, ⟨u5, rfl, t5⟩, rfl⟩
  obtain ⟨ua5, un5, uc5, rfl⟩ := t5.sl
  refine ⟨_, rfl, ?_⟩
  repeat' first
    | refine Z1 ?_ | refine Z2 ?_ | refine Z5 ?_ | refine Yxx ((toStmS_own x.body (by simp only [wL]; omega) t5).at (i := 0) rfl) ?_ | refine Zo ?_
  rintro A σ2 ⟨τ6, ⟨u6, rfl, t6⟩, rfl⟩
  obtain ⟨ua6, un6, uc6, rfl⟩ := t6.sl
  refine ⟨_, rfl, ?_⟩
  repeat' first
    | refine Z1 ?_ | refine Z2 ?_ | refine Zo ?_ | refine ok_ret ?_ | refine Zu ?_
  have oo : ([.string x.name, .slice ua1 un1 uc1, .slice ua2 un2 uc2, .slice ua3 un3 uc3, .slice ua4 un4 uc4, .slice ua5 un5 uc5, .slice ua6 un6 uc6].map ex1).all AV.one = true := by
    simp only [List.map_cons, List.map_nil, List.all_cons, List.all_nil, Bool.and_true, Bool.and_eq_true]
    exact ⟨rfl, rfl, rfl, rfl, rfl, rfl, rfl⟩
  refine ⟨τ6, ⟨[.string x.name, .slice ua1 un1 uc1, .slice ua2 un2 uc2, .slice ua3 un3 uc3, .slice ua4 un4 uc4, .slice ua5 un5 uc5, .slice ua6 un6 uc6], rfl, by simp [agr, eCls], oo, ?_⟩, rfl, _, rfl, rfl⟩
  refine t6.perm ?_
  exact List.Perm.append_right L (show List.Perm (α := Sh × D × Value) [(.im 84 shSm, .im (x.body.map eSm), .slice ua6 un6 uc6), (.im 3 shNum, .im (x.insts.map eNum), .slice ua5 un5 uc5), (.im 3 shNum, .im (x.mems.map eNum), .slice ua4 un4 uc4), (.im 9 shStr, .im (x.locs.map eStr), .slice ua3 un3 uc3), (.im 79 shSlt, .im (x.outs.map eSlt), .slice ua2 un2 uc2), (.im 79 shSlt, .im (x.ins.map eSlt), .slice ua1 un1 uc1)] [(.im 79 shSlt, .im (x.ins.map eSlt), .slice ua1 un1 uc1), (.im 79 shSlt, .im (x.outs.map eSlt), .slice ua2 un2 uc2), (.im 9 shStr, .im (x.locs.map eStr), .slice ua3 un3 uc3), (.im 3 shNum, .im (x.mems.map eNum), .slice ua4 un4 uc4), (.im 3 shNum, .im (x.insts.map eNum), .slice ua5 un5 uc5), (.im 84 shSm, .im (x.body.map eSm), .slice ua6 un6 uc6)] from List.reverse_perm (α := Sh × D × Value) [(.im 79 shSlt, .im (x.ins.map eSlt), .slice ua1 un1 uc1), (.im 79 shSlt, .im (x.outs.map eSlt), .slice ua2 un2 uc2), (.im 9 shStr, .im (x.locs.map eStr), .slice ua3 un3 uc3), (.im 3 shNum, .im (x.mems.map eNum), .slice ua4 un4 uc4), (.im 3 shNum, .im (x.insts.map eNum), .slice ua5 un5 uc5), (.im 84 shSm, .im (x.body.map eSm), .slice ua6 un6 uc6)])

theorem toClassS_own (l : List (Cls)) (hw : wL (wCls) l ≤ 1048576) {τ : FH} {L : List (Sh × D × Value)} (hT : Tr τ L) :
    BFun X 16 [.d (.im (l.map eCls))] τ fun A τ' => ∃ u, A = .ret (.d (.s u)) ∧ Tr τ' ((.im 53 shCls, .im (l.map eCls), u) :: L) := by
  simp only [wL] at hw
  refine BFun.row rfl ?_
  refine afun_of Tryd.func16 rfl (by decide) Tryd.ntmps16 Tryd.results16 (by simp) ?_
  repeat' first
    | refine Z1 ?_ | refine Z2 ?_ | refine Z5 ?_ | refine op_make (k := l.length) rfl rfl (by omega) rfl rfl rfl rfl rfl rfl ?_ | refine Zd ?_ | refine Zo ?_ | refine ok_seq ?_ | refine ok_block ?_
  refine ok_for (ι := Nat × List (List Value) × FH) (fun x_ => envL [(0, .d (.im (l.map eCls))), (3, .sl 1 1 0 l.length), (4, vi x_.1)]) (fun x_ => stL [some (.box x_.2.2), some (.row 1 53 7 (trv x_.2.1 (l.length - x_.1) [.d (.s (.string .empty)), .d (.s (.slice none 0 0)), .d (.s (.slice none 0 0)), .d (.s (.slice none 0 0)), .d (.s (.slice none 0 0)), .d (.s (.slice none 0 0)), .d (.s (.slice none 0 0))]))]) (fun x_ => x_.1 ≤ l.length ∧ x_.2.1.length = x_.1 ∧ agrs shCls ((l.take x_.1).map eCls) x_.2.1 ∧ Tr x_.2.2 (subss shCls ((l.take x_.1).map eCls) x_.2.1 ++ L)) (fun x_ => l.length - x_.1) (0, [], τ) (⟨Nat.zero_le _, rfl, trivial, hT⟩) (weak_mk rfl ⟨.refl _, .refl _, .refl _, trivial⟩ ⟨⟨rfl, _, rfl, rfl⟩, ⟨rfl, _, rfl, rfl, rfl, rfl, rfl⟩, trivial⟩) (fun _ => Nat.le_refl 2) ?_
  rintro ⟨k, V, τ1⟩ ⟨i1, i2, i3, i4⟩
  simp only at i1 i2 i3 i4
  rcases hx : l[k]? with _ | x
  · have hle := none_le hx
    have ek : decide ((k : Int) < (l.length : Int)) = false := decide_eq_false (by omega)
    repeat' first
      | refine Z1 ?_ | refine Z2 ?_ | refine Z5 ?_ | refine Zd ?_ | refine Zo ?_ | refine ok_seq ?_ | refine Zq ?_ | refine ok_exit ?_ | refine ok_ret ?_ | refine x_normal_then ?_ | refine x_exit_here ?_ | refine Zv ?_ | refine Zt ?_
    have e1 : l.take k = l := List.take_of_length_le hle
    rw [e1] at i3 i4
    refine ⟨τ1, 1, 1, V, by simp, rfl, ?_, i3, i4⟩
    show some (AO.row 1 _ _ (trv _ _ _)) = _
    rw [show l.length - k = 0 by omega, trv_zero]; rfl
  · obtain ⟨hdr, hlt⟩ := drop_some hx
    have hwx := wL_mem (w := wCls) (List.mem_of_getElem? hx)
    have ek : decide ((k : Int) < (l.length : Int)) = true := decide_eq_true (by omega)
    repeat' first
      | refine Z1 ?_ | refine Z2 ?_ | refine Z5 ?_ | refine Yxx ((toClass_own x (by omega) i4).at (i := 0) rfl) ?_ | refine Zd ?_ | refine Ze ?_ | refine Zo ?_ | refine ok_seq ?_ | refine ok_reg ?_ | refine Zp ?_ | refine ok_block ?_
      | refine ok_skip ?_ | refine x_normal_then ?_
    rintro A σ2 ⟨τ2, ⟨v, rfl, a2, o2, t2⟩, rfl⟩
    refine ⟨_, rfl, ?_⟩
    have n3 : agrs shCls ((l.take (k + 1)).map eCls) (V ++ [v]) := by rw [tk_push hx, List.map_append]; exact agrs_app i3 ⟨a2, trivial⟩
    have n4 : Tr τ2 (subss shCls ((l.take (k + 1)).map eCls) (V ++ [v]) ++ L) := by
      rw [tk_push hx, List.map_append, subss_app (by simp; omega)]
      refine t2.perm ?_
      show List.Perm _ ((_ ++ (subs shCls (eCls x) v ++ [])) ++ L)
      rw [List.append_nil, ← List.append_assoc]
      exact List.Perm.append_right _ List.perm_append_comm
    repeat' first
      | refine Z1 ?_ | refine Z2 ?_ | refine Z3 ?_ | refine Z5 ?_ | refine op_place rfl rfl hlt rfl rfl rfl rfl ?_ | refine op_putv (v := v) i2 hlt rfl rfl rfl (agr_len a2).2 o2 rfl rfl ?_ | refine Zf ?_ | refine ok_reg ?_
      | refine x_normal_then ?_ | refine x_normal_block ?_
    exact ⟨(k + 1, V ++ [v], τ2), ⟨hlt, by simp [i2], n3, n4⟩, by (try simp only); omega, low_mk (Nat.le_of_ble_eq_true rfl) ⟨⟨rfl, rfl⟩, ⟨rfl, rfl⟩, ⟨rfl, rfl⟩, trivial⟩ ⟨⟨rfl, trivial⟩, ⟨rfl, blt_lt rfl, trv_low _ _ _ rfl⟩, trivial⟩⟩

theorem toMachine_own (l : List Cls) (hw : wL wCls l ≤ 1048576) {τ : FH} {L : List (Sh × D × Value)} (hT : Tr τ L) :
    BFun X 6 [.agg [.d (.im (l.map eCls))]] τ fun A τ' => ∃ u, A = .ret (.agg [.d (.s u)]) ∧ Tr τ' ((.im 53 shCls, .im (l.map eCls), u) :: L) := by
  refine BFun.words rfl ?_
  refine afun_of Tryd.func6 rfl (by decide) Tryd.ntmps6 Tryd.results6 (by simp) ?_
  repeat' first
    | refine Z1 ?_ | refine Z2 ?_ | refine Z5 ?_ | refine Yxx ((toClassS_own l hw hT).at (i := 0) rfl) ?_ | refine Zo ?_
  rintro A σ2 ⟨τ1, ⟨u, rfl, t1⟩, rfl⟩
  obtain ⟨ua, un, uc, rfl⟩ := t1.sl
  refine ⟨_, rfl, ?_⟩
  repeat' first
    | refine Z1 ?_ | refine Z2 ?_ | refine Zo ?_ | refine ok_ret ?_ | refine Zu ?_
  exact ⟨τ1, ⟨_, rfl, t1⟩, rfl, _, rfl, rfl⟩
end Go.Pm
/- The text of a mark. -/
set_option linter.unusedVariables false
set_option linter.unusedSimpArgs false
namespace Go.Pm
attribute [local irreducible] AR Ok inBlock andThen endQ aoper
set_option maxHeartbeats 1000000
open Go.Proofs
theorem markText_ok (k : Int) (h1 : 1 ≤ k) (h2 : k ≤ 1099511627776) : PFun X 26 [vi k] (vs (markT k)) := by
  have e0 : decide (k ≤ 0) = false := decide_eq_false (by omega)
  obtain ⟨n, rfl⟩ : ∃ n : Nat, k = (n : Int) := ⟨k.toNat, by omega⟩
  refine pfun_of Tryd.func26 rfl (by decide) Tryd.ntmps26 Tryd.results26 (by simp) rfl rfl ?_
  repeat' first
    | refine Z1 ?_ | refine Z2 ?_ | refine Z3 ?_ | refine Z4 ?_ | refine Z5 ?_ | refine Z6 ?_ | refine Z7 ?_ | refine Z8 ?_ | refine Z9 ?_ | refine Za (fun hc => ?_) (fun hc => ?_) | refine Zb (fun hc => ?_) (fun hc => ?_) | refine Zd ?_
    | refine Ze ?_ | refine Zf ?_ | refine Zg ?_ | refine Zh ?_ | refine Zi ?_ | refine Zj ?_ | refine Zk ?_ | refine Zl ?_ | refine Zm ?_ | refine Zn (fun hc => ?_) (fun hc => ?_) | refine Zo ?_ | refine ok_seq ?_ | refine ok_reg ?_
    | refine Zp ?_ | refine Zq ?_ | refine Zr (fun hc => ?_) (fun hc => ?_) | refine ok_block ?_ | refine ok_exit ?_ | refine ok_skip ?_ | refine ok_ret ?_ | refine x_normal_then ?_ | refine x_exit_here ?_ | refine Zs ?_ | refine Zv ?_
    | refine x_ret_then ?_ | refine x_ret_block ?_ | refine x_normal_block ?_ | refine Zt ?_ | refine Zu ?_
  refine ok_for (ι := Nat × ByteArray) (fun x_ => envL [(0, vi x_.1), (3, vs x_.2)]) (fun x_ => stL []) (fun x_ => digs x_.1 ++ x_.2 = itoaB (n : Int) ∧ x_.1 ≤ n) (fun x_ => x_.1) (n, B []) (⟨by rw [ba_nil]; unfold digs; rw [if_neg (by omega)], Nat.le_refl _⟩) (weak_mk rfl ⟨.refl _, .refl _, trivial⟩ trivial) (fun _ => Nat.le_refl 0) ?_
  rintro ⟨k, u⟩ ⟨i1, i2⟩
  simp only at i1 i2
  have hz := itoaB_le (n : Int) (by omega) (by omega)
  have hu : u.size ≤ 21 := by have := congrArg ByteArray.size i1; rw [ByteArray.size_append] at this; omega
  by_cases hk : 0 < k
  · have ek : decide (0 < (k : Int)) = true := decide_eq_true (by omega)
    have q1 : (k : Int).tdiv 10 = ((k / 10 : Nat) : Int) := by rw [Int.tdiv_eq_ediv_of_nonneg (by omega)]; omega
    have q2 : (k : Int).tmod 10 = ((k % 10 : Nat) : Int) := by rw [Int.tmod_eq_emod_of_nonneg (by omega)]; omega
    have q3 : IntKind.i64.wrap ((k : Int).tdiv 10) = ((k / 10 : Nat) : Int) := by rw [q1]; exact wrap_id (by omega) (by omega)
    have hb : byteRows (B [UInt8.ofNat (48 + k % 10)]) = [[.d (.s (.int .u8 (IntKind.u8.wrap (IntKind.i64.wrap (48 + (k : Int).tmod 10)))))]] := by
      rw [q2, wrap_id (by omega) (by omega)]
      have hm : k % 10 < 10 := Nat.mod_lt _ (by decide)
      generalize k % 10 = m at hm
      match m, hm with | 0, _ => rfl | 1, _ => rfl | 2, _ => rfl | 3, _ => rfl | 4, _ => rfl | 5, _ => rfl | 6, _ => rfl | 7, _ => rfl | 8, _ => rfl | 9, _ => rfl
    have hz2 : (B [UInt8.ofNat (48 + k % 10)] ++ u).size ≤ 9223372036854775807 := by
      rw [ByteArray.size_append]
      have : (B [UInt8.ofNat (48 + k % 10)]).size = 1 := rfl
      omega
    repeat' first
      | refine Up (w := B [UInt8.ofNat (48 + k % 10)]) (i := 0) (v := 0) rfl (by rw [hb]; rfl) ?_ | refine Z1 ?_ | refine Z2 ?_ | refine Z3 ?_ | refine Z5 ?_ | refine Z6 ?_ | refine Z7 ?_ | refine Z8 ?_ | refine Z9 ?_
      | refine Za (fun hc => ?_) (fun hc => ?_) | refine Zb (fun hc => ?_) (fun hc => ?_) | refine Ycv ?_ | refine Yw (sz := 1) ?_ | refine Ul (a := B [UInt8.ofNat (48 + k % 10)]) (b := u) (hb := hz2) ?_ | refine Zd ?_ | refine Ze ?_
      | refine Zf ?_ | refine Zg ?_ | refine Zh ?_ | refine Zi ?_ | refine Zj ?_ | refine Zk ?_ | refine Zl ?_ | refine Zm ?_ | refine Zn (fun hc => ?_) (fun hc => ?_) | refine Zo ?_ | refine ok_seq ?_ | refine ok_reg ?_ | refine Zp ?_
      | refine Zq ?_ | refine Zr (fun hc => ?_) (fun hc => ?_) | refine ok_block ?_ | refine ok_exit ?_ | refine ok_skip ?_ | refine ok_ret ?_ | refine x_normal_then ?_ | refine x_exit_here ?_ | refine Zs ?_ | refine Zv ?_
      | refine x_ret_then ?_ | refine x_ret_block ?_ | refine x_normal_block ?_ | refine Zt ?_ | refine Zu ?_
    rw [q3]
    exact ⟨(k / 10, B [UInt8.ofNat (48 + k % 10)] ++ u), ⟨by rw [← ba_assoc, ← digs_step hk]; exact i1, Nat.le_trans (Nat.div_le_self _ _) i2⟩, by (try simp only); omega, low_mk (Nat.zero_le _) ⟨⟨rfl, rfl⟩, ⟨rfl, rfl⟩, trivial⟩ trivial⟩
  · have ek : decide (0 < (k : Int)) = false := decide_eq_false (by omega)
    have : k = 0 := by omega
    subst this
    have i1 : u = itoaB (n : Int) := by rw [← i1]; unfold digs; rw [if_pos rfl, nil_ba]
    subst i1
    repeat' first
      | refine Z1 ?_ | refine Z2 ?_ | refine Z3 ?_ | refine Z4 ?_ | refine Z5 ?_ | refine Z6 ?_ | refine Z7 ?_ | refine Z8 ?_ | refine Z9 ?_ | refine Za (fun hc => ?_) (fun hc => ?_) | refine Zb (fun hc => ?_) (fun hc => ?_)
      | refine Ul (a := B [109]) (b := itoaB (n : Int)) (hb := by rw [ByteArray.size_append]; have : (B [109]).size = 1 := rfl; omega) ?_ | refine Zd ?_ | refine Ze ?_ | refine Zf ?_ | refine Zg ?_ | refine Zh ?_ | refine Zi ?_
      | refine Zj ?_ | refine Zk ?_ | refine Zl ?_ | refine Zm ?_ | refine Zn (fun hc => ?_) (fun hc => ?_) | refine Zo ?_ | refine ok_seq ?_ | refine ok_reg ?_ | refine Zp ?_ | refine Zq ?_ | refine Zr (fun hc => ?_) (fun hc => ?_)
      | refine ok_block ?_ | refine ok_exit ?_ | refine ok_skip ?_ | refine ok_ret ?_ | refine x_normal_then ?_ | refine x_exit_here ?_ | refine Zs ?_ | refine Zv ?_ | refine x_ret_then ?_ | refine x_ret_block ?_ | refine x_normal_block ?_
      | refine Zt ?_ | refine Zu ?_
    rfl
end Go.Pm
