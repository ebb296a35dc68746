/- Plain law: the program's names are the specification's names. -/
import Derived.Test.YtaabemmnjhgbgaaGreatDoorB2
import Derived.Test.YtaabemmnjhgbgaaGreatDoorC1
import Derived.Test.YtaabemmnjhgbgaaGreatDoorA4
import Derived.Test.YtaabemmnjhgbgaaGreatDoorA3
set_option linter.unusedVariables false
set_option linter.unusedSimpArgs false
namespace Go.Pm
theorem kw_eq (s : ByteArray) : hasWord kwS s = inS kwSpec s := by
  have h1 : ∀ x ∈ kwBytes, x ∈ kwSpecBytes := by decide
  have h2 : ∀ x ∈ kwSpecBytes, x ∈ kwBytes := by decide
  rw [Bool.eq_iff_iff]
  simp only [hasWord, inS, List.any_eq_true, decide_eq_true_eq]
  constructor
  · rintro ⟨x, hx, rfl⟩
    obtain ⟨y, hy, rfl⟩ := List.mem_map.1 hx
    exact ⟨_, List.mem_map.2 ⟨y, h1 y hy, rfl⟩, rfl⟩
  · rintro ⟨x, hx, rfl⟩
    obtain ⟨y, hy, rfl⟩ := List.mem_map.1 hx
    exact ⟨_, List.mem_map.2 ⟨y, h2 y hy, rfl⟩, rfl⟩
theorem name_eq (s : ByteArray) : nameI s = nameS s := by
  have hsz := bs_length s
  unfold nameI nameS plainS freshS
  rw [kw_eq]
  rcases hb : bs s with _ | ⟨c, _ | ⟨d, r⟩⟩
  · rfl
  · simp only [hb, List.length_cons, List.length_nil] at hsz
    by_cases h36 : (c.toNat : Int) = 36
    · have hl : letterI c = false := by simp [letterI, h36]
      simp [h36, hl]
    · by_cases hbig : 40 < (s.size : Int)
      · simp [hbig]
      · simp only [hbig, h36, if_false, List.all_cons, List.all_nil, Bool.or_false, Bool.and_true]
        cases hl : letterI c <;> simp [tailI, hl]
  · simp only [hb, List.length_cons] at hsz
    by_cases hbig : 40 < (s.size : Int)
    · have h10 : 10 < (s.size : Int) := by omega
      simp [hbig, h10]
    · by_cases h36 : (c.toNat : Int) = 36
      · have hl : letterI c = false := by simp [letterI, h36]
        simp [hbig, h36, hl]
      · simp only [hbig, h36, if_false, List.all_cons]
        cases hl : letterI c <;> simp [tailI, hl, h36]
def opOK (x : Itm) : Prop := 1 ≤ x.op ∧ x.op ≤ 24
theorem item_eq (x : Itm) : itemI x = (itemS x && (!decide (x.op = 25)) && decide (1 ≤ x.op ∧ x.op ≤ 24)) := by
  unfold itemI itemS nmI
  rw [name_eq]
  have hns : x.name = ⟨#[]⟩ → nameS x.name = false := fun h => by rw [h]; rfl
  grind
end Go.Pm
/- Plain law: codes. -/
set_option linter.unusedVariables false
set_option linter.unusedSimpArgs false
namespace Go.Pm
def postG : Int → List Itm → Int → Bool
  | h, [], t => decide (h = t)
  | h, x :: l, t => if h < arityI x.op then false else postG (h + (1 - arityI x.op)) l t
theorem postG_one (l : List Itm) : ∀ h, postI h l = postG h l 1 := by
  induction l with
  | nil => intro h; rfl
  | cons x l ih => intro h; simp only [postI, postG, ih]
theorem postG_snoc (x : Itm) (t : Int) : ∀ (l : List Itm) (h : Int), postG h (l ++ [x]) t = (postG h l (t + arityI x.op - 1) && decide (1 ≤ t))
  | [], h => by
    simp only [List.nil_append, postG]
    by_cases h1 : h < arityI x.op
    · rw [if_pos h1]
      by_cases h2 : h = t + arityI x.op - 1
      · simp only [h2, decide_true, Bool.true_and]
        symm; rw [decide_eq_false_iff_not]; omega
      · simp [h2]
    · rw [if_neg h1, Bool.eq_iff_iff]
      simp only [decide_eq_true_eq, Bool.and_eq_true]
      constructor
      · intro h2; omega
      · intro h2; omega
  | y :: l, h => by
    simp only [List.cons_append, postG]
    split
    · rfl
    · exact postG_snoc x t l _
theorem postG_pos : ∀ (l : List Itm) (h t : Int), l ≠ [] → postG h l t = true → 1 ≤ t
  | [], h, t, hl, _ => absurd rfl hl
  | [x], h, t, _, hp => by
    simp only [postG] at hp
    split at hp
    · cases hp
    · simp only [decide_eq_true_eq] at hp; omega
  | x :: y :: l, h, t, _, hp => by
    simp only [postG] at hp
    split at hp
    · cases hp
    · exact postG_pos (y :: l) _ t (by simp) (by simpa only [postG] using hp)
theorem arity_eq {op : Int} (h : 1 ≤ op ∧ op ≤ 25) : sarityI op = arityI op := by unfold sarityI arityI; grind
theorem begin_post (l : List Itm) (hall : ∀ x ∈ l, 1 ≤ x.op ∧ x.op ≤ 25) : ∀ (n : Nat) (need : Int), n ≤ l.length → 1 ≤ need → (beginS l n need = 0 ↔ postG 0 (l.take n) need = true)
  | 0, need, _, hn => by
    simp only [beginS, List.take_zero, postG, decide_eq_true_eq]
    rw [if_neg (by omega)]
    omega
  | n + 1, need, hl, hn => by
    have hlt : n < l.length := by omega
    have hx : l[n]? = some l[n] := by simp [hlt]
    have hop := hall l[n] (List.getElem_mem hlt)
    have har := arityI_range l[n].op
    simp only [beginS]
    rw [if_neg (by omega), hx]
    simp only
    rw [arity_eq hop, if_neg (by omega), List.take_add_one, hx]
    simp only [Option.toList_some]
    rw [postG_snoc]
    simp only [Bool.and_eq_true, decide_eq_true_eq, hn, and_true]
    by_cases h1 : 1 ≤ need + arityI l[n].op - 1
    · exact begin_post l hall n _ (by omega) h1
    · have h0 : need + arityI l[n].op - 1 = 0 := by omega
      rw [h0]
      cases n with
      | zero => simp [beginS, postG]
      | succ m =>
        simp only [beginS]
        rw [if_pos (by omega)]
        constructor
        · intro h; omega
        · intro h
          have := postG_pos _ _ _ (by intro he; have := congrArg List.length he; simp only [List.length_take, List.length_nil] at this; omega) h
          omega
theorem begin_ops (l : List Itm) : ∀ (n : Nat) (need : Int), beginS l n need = 0 → ∀ j x, j < n → l[j]? = some x → 0 ≤ sarityI x.op
  | 0, need, _, j, x, hj, _ => by omega
  | n + 1, need, h, j, x, hj, hx => by
    simp only [beginS] at h
    split at h
    · omega
    · split at h
      · omega
      · rename_i y hy
        split at h
        · omega
        · rename_i hs
          by_cases hjn : j = n
          · subst hjn; rw [hy] at hx; cases hx; omega
          · exact begin_ops l n _ h j x (by omega) hx
end Go.Pm
/- Machines of the specification: variables, codes, values. -/
set_option linter.unusedVariables false
set_option linter.unusedSimpArgs false
namespace Go.Pm
attribute [local irreducible] AR Ok inBlock andThen endQ aoper
set_option maxHeartbeats 1000000
open Go.Proofs
def sNm (x : Slt) : ByteArray := x.name
def nmsC (c : Cls) : List ByteArray := c.ins.map sNm ++ c.outs.map sNm ++ c.locs
theorem nmsC_len (c : Cls) : (nmsC c).length = c.ins.length + c.outs.length + c.locs.length := by simp [nmsC, Nat.add_assoc]
theorem cls_le {c : Cls} (hw : wCls c ≤ 1048576) : c.ins.length + c.outs.length + c.locs.length + c.mems.length + c.insts.length + c.body.length ≤ 1048576 := by simp only [wCls, wL] at hw; omega
theorem svarsC_ok (c : Cls) (hw : wCls c ≤ 1048576) : PFun X 37 [.agg ((eCls c).map .d)] (.d (.im ((nmsC c).map eStr))) := by
  have hl := cls_le hw
  refine pfun_of Tryz.func37 rfl (by decide) Tryz.ntmps37 Tryz.results37 (by simp) rfl rfl ?_
  repeat' first
    | refine Z1 ?_ | refine Z2 ?_ | refine Z5 ?_ | refine op_bslice rfl rfl rfl rfl rfl rfl rfl ?_ | refine Zd ?_ | refine Zo ?_ | refine ok_seq ?_ | refine ok_block ?_
  refine ok_forR (ι := Nat × List ByteArray) (fun x_ => envL [(1, .ref 0 0), (3, .sl 1 2 0 x_.2.length), (10, .d (.im (c.ins.map eSlt))), (11, vi c.ins.length), (12, vi x_.1)]) (fun x_ => stL [some (.var ((eCls c).map .d)), some (.row 2 9 1 (im2 eStr x_.2)), none]) (fun x_ => x_.1 ≤ c.ins.length ∧ x_.2 = (c.ins.take x_.1).map sNm) (fun x_ => c.ins.length - x_.1) (0, []) (⟨Nat.zero_le _, rfl⟩) Turn.refl (lowR_mk [(2, 1)] rfl rfl rfl ⟨⟨rfl, rfl⟩, ⟨rfl, rfl⟩, ⟨rfl, rfl⟩, ⟨rfl, rfl⟩, ⟨rfl, rfl⟩, trivial⟩ ⟨⟨rfl, rfl⟩, ⟨renO_row rfl (by first | exact im2_ren _ _ _ | rfl), blt_lt rfl, im2_low _ _ _⟩, trivial⟩) ?_
  rintro ⟨k, L⟩ ⟨i1, i2⟩
  simp only at i1 i2
  have hL : L.length ≤ c.ins.length := by rw [i2]; simp; omega
  rcases hx : c.ins[k]? with _ | x
  · have hle := none_le hx
    have ek : decide ((k : Int) < (c.ins.length : Int)) = false := decide_eq_false (by omega)
    rw [List.take_of_length_le hle] at i2
    repeat' first
      | refine Z1 ?_ | refine Z2 ?_ | refine Z5 ?_ | refine Zd ?_ | refine Zo ?_ | refine ok_seq ?_ | refine Zq ?_ | refine ok_block ?_ | refine ok_exit ?_ | refine x_normal_then ?_ | refine x_exit_here ?_ | refine Zv ?_
    refine ok_forR (ι := Nat × List ByteArray) (fun x_ => envL [(1, .ref 0 0), (3, .sl 1 3 0 x_.2.length), (23, .d (.im (c.outs.map eSlt))), (24, vi c.outs.length), (25, vi x_.1)]) (fun x_ => stL [some (.var ((eCls c).map .d)), some (.row 3 9 1 (im2 eStr x_.2)), none, none]) (fun x_ => x_.1 ≤ c.outs.length ∧ x_.2 = L ++ (c.outs.take x_.1).map sNm) (fun x_ => c.outs.length - x_.1) (0, L) (⟨Nat.zero_le _, by simp⟩) Turn.refl (lowR_mk [(3, 2)] rfl rfl rfl ⟨⟨rfl, rfl⟩, ⟨rfl, rfl⟩, ⟨rfl, rfl⟩, ⟨rfl, rfl⟩, ⟨rfl, rfl⟩, trivial⟩ ⟨⟨rfl, rfl⟩, ⟨renO_row rfl (by first | exact im2_ren _ _ _ | rfl), blt_lt rfl, im2_low _ _ _⟩, trivial⟩) ?_
    rintro ⟨q, M⟩ ⟨j1, j2⟩
    simp only at j1 j2
    have hM : M.length ≤ c.ins.length + c.outs.length := by rw [j2]; simp; omega
    rcases hy : c.outs[q]? with _ | y
    · have hle2 := none_le hy
      have eq : decide ((q : Int) < (c.outs.length : Int)) = false := decide_eq_false (by omega)
      rw [List.take_of_length_le hle2] at j2
      repeat' first
        | refine Z1 ?_ | refine Z2 ?_ | refine Z5 ?_ | refine Yl (e := eStr) (l := M) c.locs ?_ | refine fz_rows (e := eStr) (l := M ++ c.locs) rfl 2 rfl rfl rfl ?_ | refine Zo ?_ | refine ok_seq ?_ | refine Zq ?_
        | refine ok_exit ?_ | refine ok_ret ?_ | refine x_normal_then ?_ | refine x_exit_here ?_ | refine Zv ?_ | refine Zt ?_
      rw [j2, i2]; rfl
    obtain ⟨hd, hlt⟩ := drop_some hy
    have eq : decide ((q : Int) < (c.outs.length : Int)) = true := decide_eq_true (by omega)
    repeat' first
      | refine Z1 ?_ | refine Z2 ?_ | refine Z3 ?_ | refine Z4 ?_ | refine Z5 ?_ | refine Yl (e := eStr) (l := M) [y.name] ?_ | refine Ze ?_ | refine Zf ?_ | refine Zo ?_ | refine ok_seq ?_ | refine ok_reg ?_ | refine Zp ?_
      | refine ok_block ?_ | refine ok_skip ?_ | refine x_normal_then ?_ | refine x_normal_block ?_
    exact ⟨(q + 1, M ++ [y.name]), ⟨hlt, by rw [j2, tk_push hy, List.map_append, List.append_assoc]; rfl⟩, by (try simp only); omega, lowR_mk [(3, 6)] rfl rfl rfl ⟨⟨rfl, rfl⟩, ⟨rfl, rfl⟩, ⟨rfl, rfl⟩, ⟨rfl, rfl⟩, ⟨rfl, rfl⟩, trivial⟩ ⟨⟨rfl, rfl⟩, ⟨renO_row rfl (by first | exact im2_ren _ _ _ | rfl), blt_lt rfl, im2_low _ _ _⟩, trivial⟩⟩
  obtain ⟨hd, hlt⟩ := drop_some hx
  have ek : decide ((k : Int) < (c.ins.length : Int)) = true := decide_eq_true (by omega)
  repeat' first
    | refine Z1 ?_ | refine Z2 ?_ | refine Z3 ?_ | refine Z4 ?_ | refine Z5 ?_ | refine Yl (e := eStr) (l := L) [x.name] ?_ | refine Ze ?_ | refine Zf ?_ | refine Zo ?_ | refine ok_seq ?_ | refine ok_reg ?_ | refine Zp ?_
    | refine ok_block ?_ | refine ok_skip ?_ | refine x_normal_then ?_ | refine x_normal_block ?_
  exact ⟨(k + 1, L ++ [x.name]), ⟨hlt, by rw [i2, tk_push hx, List.map_append]; rfl⟩, by (try simp only); omega, lowR_mk [(2, 5)] rfl rfl rfl ⟨⟨rfl, rfl⟩, ⟨rfl, rfl⟩, ⟨rfl, rfl⟩, ⟨rfl, rfl⟩, ⟨rfl, rfl⟩, trivial⟩ ⟨⟨rfl, rfl⟩, ⟨renO_row rfl (by first | exact im2_ren _ _ _ | rfl), blt_lt rfl, im2_low _ _ _⟩, trivial⟩⟩
end Go.Pm
/- Machines of the specification: places, codes, values. -/
set_option linter.unusedVariables false
set_option linter.unusedSimpArgs false
namespace Go.Pm
attribute [local irreducible] AR Ok inBlock andThen endQ aoper
set_option maxHeartbeats 1000000
open Go.Proofs
def placeS (s : ByteArray) : Nat → List ByteArray → Int
  | _, [] => -1
  | i, x :: l => if x = s then (i : Int) else placeS s (i + 1) l
theorem splace_ok (l : List ByteArray) (s : ByteArray) (hl : l.length ≤ 1048576) : PFun X 38 [.d (.im (l.map eStr)), vs s] (vi (placeS s 0 l)) := by
  refine pfun_of Tryz.func38 rfl (by decide) Tryz.ntmps38 Tryz.results38 (by simp) rfl rfl ?_
  repeat' first
    | refine Z1 ?_ | refine Z2 ?_ | refine Z5 ?_ | refine Zd ?_ | refine Zo ?_ | refine ok_seq ?_ | refine ok_block ?_
  refine ok_for (ι := Nat) (fun x => envL [(1, vs s), (7, .d (.im (l.map eStr))), (8, vi l.length), (9, vi x)]) (fun x => stL []) (fun x => x ≤ l.length ∧ placeS s x (l.drop x) = placeS s 0 l) (fun x => l.length - x) 0 (⟨Nat.zero_le _, rfl⟩) (weak_mk rfl ⟨.refl _, .refl _, .refl _, .refl _, trivial⟩ trivial) (fun _ => Nat.le_refl 0) ?_
  rintro k ⟨i1, i2⟩
  rcases hx : l[k]? with _ | x
  · have hle := none_le hx
    have ek : decide ((k : Int) < (l.length : Int)) = false := decide_eq_false (by omega)
    rw [drop_none hx] at i2
    repeat' first
      | refine Z1 ?_ | refine Z2 ?_ | refine Zo ?_ | refine ok_seq ?_ | refine Zq ?_ | refine ok_exit ?_ | refine ok_ret ?_ | refine x_normal_then ?_ | refine x_exit_here ?_ | refine Zv ?_ | refine Zt ?_
    exact ret_vi i2
  obtain ⟨hd, hlt⟩ := drop_some hx
  have ek : decide ((k : Int) < (l.length : Int)) = true := decide_eq_true (by omega)
  rw [hd] at i2
  simp only [placeS] at i2
  by_cases h : x = s
  · have e1 : decide (x = s) = true := decide_eq_true h
    rw [if_pos h] at i2
    repeat' first
      | refine Z1 ?_ | refine Z2 ?_ | refine Z5 ?_ | refine Ze ?_ | refine Zo ?_ | refine ok_seq ?_ | refine Zp ?_ | refine ok_block ?_ | refine ok_skip ?_ | refine ok_ret ?_ | refine x_normal_then ?_ | refine x_ret_then ?_
      | refine x_ret_block ?_ | refine Zt ?_
    exact ret_vi i2
  · have e1 : decide (x = s) = false := decide_eq_false h
    rw [if_neg h] at i2
    repeat' first
      | refine Z1 ?_ | refine Z2 ?_ | refine Z5 ?_ | refine Ze ?_ | refine Zf ?_ | refine Zo ?_ | refine ok_seq ?_ | refine ok_reg ?_ | refine Zp ?_ | refine Zq ?_ | refine ok_block ?_ | refine ok_skip ?_ | refine x_normal_then ?_
      | refine x_normal_block ?_
    exact ⟨k + 1, ⟨hlt, i2⟩, by (try simp only); omega, low_mk (Nat.zero_le _) ⟨⟨rfl, rfl⟩, ⟨rfl, rfl⟩, ⟨rfl, rfl⟩, ⟨rfl, rfl⟩, trivial⟩ trivial⟩
def setS (c : Cls) (x : ByteArray) : Bool := decide ((c.ins.length : Int) ≤ placeS x 0 (nmsC c))
theorem nms_le {c : Cls} (hw : wCls c ≤ 1048576) : (nmsC c).length ≤ 1048576 := by have := cls_le hw; rw [nmsC_len]; omega
theorem sset_ok (c : Cls) (x : ByteArray) (hw : wCls c ≤ 1048576) : PFun X 68 [.agg ((eCls c).map .d), vs x] (vb (setS c x)) := by
  have hl := nms_le hw
  refine pfun_of Tryz.func68 rfl (by decide) Tryz.ntmps68 Tryz.results68 (by simp) rfl rfl ?_
  repeat' first
    | refine Z1 ?_ | refine Z2 ?_ | refine Zw ?_ | refine Zx ?_ | refine Zz (Zc (svarsC_ok c hw) ⟨rfl, rfl⟩) ?_ | refine Zz (Zc (splace_ok (nmsC c) x hl) ⟨rfl, rfl⟩) ?_ | refine Zz (Zd ⟨rfl, rfl⟩) ?_ | refine Zo ?_
    | refine ok_seq ?_ | refine ok_draw X_mixed (by decide +kernel) ?_ | refine ok_ret ?_ | refine Zt ?_
  rfl
def itmS (c : Cls) (t : Itm) : Bool := if (20 < t.op ∧ t.op ≠ 25) ∨ (t.op = 3 ∧ inS (nmsC c) t.name = false) ∨ (t.op = 25 ∧ (t.val < 0 ∨ (c.mems.length : Int) ≤ t.val)) then false else true
def mcodeS (c : Cls) (l : List Itm) : Bool := codeS l 6000 && l.all (itmS c)
theorem mcode_ok (c : Cls) (l : List Itm) (hw : wCls c ≤ 1048576) (hl : l.length ≤ 1048576) : PFun X 69 [.agg ((eCls c).map .d), .d (.im (l.map eItm))] (vb (mcodeS c l)) := by
  have hn := nms_le hw
  refine pfun_of Tryz.func69 rfl (by decide) Tryz.ntmps69 Tryz.results69 (by simp) rfl rfl ?_
  cases hc : codeS l 6000 with
  | false =>
    have e1 : (!codeS l 6000) = true := by rw [hc]; rfl
    repeat' first
      | refine Z1 ?_ | refine Z2 ?_ | refine Z5 ?_ | refine Zc (scode_ok l 6000 hl) ?_ | refine Zo ?_ | refine ok_seq ?_ | refine Zp ?_ | refine ok_ret ?_ | refine x_ret_then ?_ | refine Zt ?_
    exact ret_vb (by rw [mcodeS, hc]; rfl)
  | true =>
  have e1 : (!codeS l 6000) = false := by rw [hc]; rfl
  have hm : l.all (itmS c) = mcodeS c l := by rw [mcodeS, hc]; rfl
  repeat' first
    | refine Z1 ?_ | refine Z2 ?_ | refine Z5 ?_ | refine Zc (scode_ok l 6000 hl) ?_ | refine Zd ?_ | refine Zo ?_ | refine ok_seq ?_ | refine Zq ?_ | refine ok_block ?_ | refine ok_skip ?_ | refine x_normal_then ?_
  refine ok_for (ι := Nat) (fun x => envL [(1, .d (.im (l.map eItm))), (2, .ref 0 0), (4, vb false), (10, .d (.im (l.map eItm))), (11, vi l.length), (12, vi x)]) (fun x => stL [some (.var ((eCls c).map .d))]) (fun x => x ≤ l.length ∧ (l.drop x).all (itmS c) = mcodeS c l) (fun x => l.length - x) 0 (⟨Nat.zero_le _, hm⟩) (weak_mk rfl ⟨.refl _, .refl _, .refl _, .refl _, .refl _, .refl _, trivial⟩ ⟨⟨rfl, _, rfl, rfl, fun _ _ _ => .refl _⟩, trivial⟩) (fun _ => Nat.le_refl 1) ?_
  rintro k ⟨i1, i2⟩
  rcases hx : l[k]? with _ | t
  · have hle := none_le hx
    have ek : decide ((k : Int) < (l.length : Int)) = false := decide_eq_false (by omega)
    rw [drop_none hx] at i2
    repeat' first
      | refine Z1 ?_ | refine Z2 ?_ | refine Zo ?_ | refine ok_seq ?_ | refine Zq ?_ | refine ok_exit ?_ | refine ok_ret ?_ | refine x_normal_then ?_ | refine x_exit_here ?_ | refine Zv ?_ | refine Zt ?_
    exact ret_vb i2
  obtain ⟨hd, hlt⟩ := drop_some hx
  have ek : decide ((k : Int) < (l.length : Int)) = true := decide_eq_true (by omega)
  rw [hd, List.all_cons] at i2
  have fin : itmS c t = false → false = mcodeS c l := fun h => by rw [← i2, h]; rfl
  by_cases h1 : 20 < t.op ∧ t.op ≠ 25
  · have d1 : decide (20 < t.op) = true := decide_eq_true h1.1
    have d2 : decide (t.op ≠ 25) = true := decide_eq_true h1.2
    have hf := fin (by simp only [itmS, h1, true_or, if_true, and_self, ne_eq, not_false_eq_true])
    repeat' first
      | refine Z1 ?_ | refine Z2 ?_ | refine Z5 ?_ | refine Z7 ?_ | refine Ze ?_ | refine Zh ?_ | refine Zi ?_ | refine Zl ?_ | refine Zo ?_ | refine ok_seq ?_ | refine Zp ?_ | refine ok_block ?_ | refine ok_skip ?_
      | refine ok_ret ?_ | refine x_normal_then ?_ | refine x_ret_then ?_ | refine x_ret_block ?_ | refine Zt ?_
    exact ret_vb hf
  have go : ∀ Q : Prop, (decide (20 < t.op) = false → Q) → (decide (20 < t.op) = true → decide (t.op ≠ 25) = false → Q) → Q := by
    intro Q a b
    by_cases h : 20 < t.op
    · exact b (decide_eq_true h) (decide_eq_false fun g => h1 ⟨h, g⟩)
    · exact a (decide_eq_false h)
  by_cases h2 : t.op = 3 ∧ inS (nmsC c) t.name = false
  · have d3 : decide (t.op = 3) = true := decide_eq_true h2.1
    have d0 : decide (20 < t.op) = false := decide_eq_false (by omega)
    have d4 : (!inS (nmsC c) t.name) = true := by rw [h2.2]; rfl
    have hf := fin (by unfold itmS; rw [if_pos (.inr (.inl h2))])
    repeat' first
      | refine Z1 ?_ | refine Z2 ?_ | refine Z5 ?_ | refine Z8 ?_ | refine Ze ?_ | refine Zm ?_ | refine Zw ?_ | refine Zx ?_ | refine Ua ?_ | refine Zz (Zl ⟨rfl, rfl⟩) ?_ | refine Ue (Zc (svarsC_ok c hw) ⟨rfl, rfl⟩) ?_
      | refine Ue (Zc (sin_ok (nmsC c) t.name hn) ⟨rfl, rfl⟩) ?_ | refine Zo ?_ | refine ok_seq ?_ | refine ok_draw X_mixed (by decide +kernel) ?_ | refine Zp ?_ | refine Zq ?_ | refine ok_block ?_ | refine ok_skip ?_ | refine ok_ret ?_
      | refine x_normal_then ?_ | refine x_ret_then ?_ | refine x_ret_block ?_ | refine Zt ?_
    exact ret_vb hf
  by_cases h3 : t.op = 25 ∧ (t.val < 0 ∨ (c.mems.length : Int) ≤ t.val)
  · have d3 : decide (t.op = 3) = false := decide_eq_false (by omega)
    have d0 : decide (20 < t.op) = true := decide_eq_true (by omega)
    have d1 : decide (t.op ≠ 25) = false := decide_eq_false (fun h => h h3.1)
    have d4 : decide (t.op = 25) = true := decide_eq_true h3.1
    have hf := fin (by unfold itmS; rw [if_pos (.inr (.inr h3))])
    by_cases h4 : t.val < 0
    · have d5 : decide (t.val < 0) = true := decide_eq_true h4
      repeat' first
        | refine Z1 ?_ | refine Z2 ?_ | refine Z5 ?_ | refine Z7 ?_ | refine Z9 ?_ | refine Ze ?_ | refine Zh ?_ | refine Zi ?_ | refine Zl ?_ | refine Zw ?_ | refine Zx ?_ | refine Ub ?_ | refine Zz (Zm ⟨rfl, rfl⟩) ?_
        | refine Zo ?_ | refine ok_seq ?_ | refine ok_draw X_mixed (by decide +kernel) ?_ | refine Zp ?_ | refine Zq ?_ | refine ok_block ?_ | refine ok_skip ?_ | refine ok_ret ?_ | refine x_normal_then ?_ | refine x_ret_then ?_
        | refine x_ret_block ?_ | refine Zt ?_
      exact ret_vb hf
    · have d5 : decide (t.val < 0) = false := decide_eq_false h4
      have d6 : decide ((c.mems.length : Int) ≤ t.val) = true := decide_eq_true (by omega)
      repeat' first
        | refine Z1 ?_ | refine Z2 ?_ | refine Z5 ?_ | refine Z7 ?_ | refine Zd ?_ | refine Ze ?_ | refine Zh ?_ | refine Zi ?_ | refine Zl ?_ | refine Zm ?_ | refine Zw ?_ | refine Zx ?_ | refine Ub ?_
        | refine Zz (Zm ⟨rfl, rfl⟩) ?_ | refine Zo ?_ | refine ok_seq ?_ | refine ok_draw X_mixed (by decide +kernel) ?_ | refine Zp ?_ | refine Zq ?_ | refine ok_block ?_ | refine ok_skip ?_ | refine ok_ret ?_ | refine x_normal_then ?_
        | refine x_ret_then ?_ | refine x_ret_block ?_ | refine Zt ?_
      exact ret_vb hf
  have hg : (l.drop (k + 1)).all (itmS c) = mcodeS c l := by
    rw [← i2, show itmS c t = true by unfold itmS; rw [if_neg (fun h => h.elim h1 (fun h => h.elim h2 h3))]]; rfl
  by_cases o3 : t.op = 3
  · have d3 : decide (t.op = 3) = true := decide_eq_true o3
    have d0 : decide (20 < t.op) = false := decide_eq_false (by omega)
    have d4 : (!inS (nmsC c) t.name) = false := by cases hq : inS (nmsC c) t.name with | true => rfl | false => exact absurd ⟨o3, hq⟩ h2
    have d7 : decide (t.op = 25) = false := decide_eq_false (by omega)
    repeat' first
      | refine Z1 ?_ | refine Z2 ?_ | refine Z5 ?_ | refine Z6 ?_ | refine Z8 ?_ | refine Ze ?_ | refine Zf ?_ | refine Zm ?_ | refine Zw ?_ | refine Zx ?_ | refine Ua ?_ | refine Zz (Zl ⟨rfl, rfl⟩) ?_
      | refine Ue (Zc (svarsC_ok c hw) ⟨rfl, rfl⟩) ?_ | refine Ue (Zc (sin_ok (nmsC c) t.name hn) ⟨rfl, rfl⟩) ?_ | refine Zo ?_ | refine ok_seq ?_ | refine ok_reg ?_ | refine ok_draw X_mixed (by decide +kernel) ?_ | refine Zp ?_ | refine Zq ?_
      | refine ok_block ?_ | refine ok_skip ?_ | refine x_normal_then ?_ | refine x_normal_block ?_
    exact ⟨k + 1, ⟨hlt, hg⟩, by (try simp only); omega, low_mk (Nat.le_of_ble_eq_true rfl) ⟨⟨rfl, rfl⟩, ⟨rfl, rfl⟩, ⟨rfl, rfl⟩, ⟨rfl, rfl⟩, ⟨rfl, rfl⟩, ⟨rfl, rfl⟩, trivial⟩ ⟨⟨rfl, rfl⟩, trivial⟩⟩
  have d3 : decide (t.op = 3) = false := decide_eq_false o3
  by_cases o25 : t.op = 25
  · have d7 : decide (t.op = 25) = true := decide_eq_true o25
    have d0 : decide (20 < t.op) = true := decide_eq_true (by omega)
    have d1 : decide (t.op ≠ 25) = false := decide_eq_false (fun h => h o25)
    have d5 : decide (t.val < 0) = false := decide_eq_false (fun h => h3 ⟨o25, .inl h⟩)
    have d6 : decide ((c.mems.length : Int) ≤ t.val) = false := decide_eq_false (fun h => h3 ⟨o25, .inr h⟩)
    repeat' first
      | refine Z1 ?_ | refine Z2 ?_ | refine Z5 ?_ | refine Z7 ?_ | refine Zd ?_ | refine Ze ?_ | refine Zf ?_ | refine Zh ?_ | refine Zi ?_ | refine Zl ?_ | refine Zm ?_ | refine Zw ?_ | refine Zx ?_ | refine Ub ?_
      | refine Zz (Zm ⟨rfl, rfl⟩) ?_ | refine Zo ?_ | refine ok_seq ?_ | refine ok_reg ?_ | refine ok_draw X_mixed (by decide +kernel) ?_ | refine Zp ?_ | refine Zq ?_ | refine ok_block ?_ | refine ok_skip ?_ | refine x_normal_then ?_
      | refine x_normal_block ?_
    exact ⟨k + 1, ⟨hlt, hg⟩, by (try simp only); omega, low_mk (Nat.le_of_ble_eq_true rfl) ⟨⟨rfl, rfl⟩, ⟨rfl, rfl⟩, ⟨rfl, rfl⟩, ⟨rfl, rfl⟩, ⟨rfl, rfl⟩, ⟨rfl, rfl⟩, trivial⟩ ⟨⟨rfl, rfl⟩, trivial⟩⟩
  · have d7 : decide (t.op = 25) = false := decide_eq_false o25
    have d0 : decide (20 < t.op) = false := decide_eq_false (fun h => h1 ⟨h, o25⟩)
    repeat' first
      | refine Z1 ?_ | refine Z2 ?_ | refine Z5 ?_ | refine Z6 ?_ | refine Z8 ?_ | refine Ze ?_ | refine Zf ?_ | refine Zm ?_ | refine Zw ?_ | refine Zx ?_ | refine Ub ?_ | refine Zz (Zm ⟨rfl, rfl⟩) ?_ | refine Zo ?_
      | refine ok_seq ?_ | refine ok_reg ?_ | refine ok_draw X_mixed (by decide +kernel) ?_ | refine Zp ?_ | refine Zq ?_ | refine ok_block ?_ | refine ok_skip ?_ | refine x_normal_then ?_ | refine x_normal_block ?_
    exact ⟨k + 1, ⟨hlt, hg⟩, by (try simp only); omega, low_mk (Nat.le_of_ble_eq_true rfl) ⟨⟨rfl, rfl⟩, ⟨rfl, rfl⟩, ⟨rfl, rfl⟩, ⟨rfl, rfl⟩, ⟨rfl, rfl⟩, ⟨rfl, rfl⟩, trivial⟩ ⟨⟨rfl, rfl⟩, trivial⟩⟩
def writesS (s : Sm) (x : ByteArray) : Bool := (decide (s.kind = 1) && decide (s.name = x)) || (decide (s.kind = 3) && inS s.outs x)
theorem swrites_ok (s : Sm) (x : ByteArray) (hw : wSm s ≤ 1048576) : PFun X 43 [.agg ((eSm s).map .d), vs x] (vb (writesS s x)) := by
  have hl : s.outs.length ≤ 1048576 := by simp only [wSm, wL] at hw; omega
  refine pfun_of Tryz.func43 rfl (by decide) Tryz.ntmps43 Tryz.results43 (by simp) rfl rfl ?_
  repeat' first
    | refine Z1 ?_ | refine Z2 ?_ | refine Z5 ?_ | refine Z6 ?_ | refine Z7 ?_ | refine Z8 ?_ | refine Z9 ?_ | refine Za (fun hc => ?_) (fun hc => ?_) | refine Zb (fun hc => ?_) (fun hc => ?_) | refine Zc (sin_ok s.outs x hl) ?_
    | refine Zh ?_ | refine Zi ?_ | refine Zl ?_ | refine Zm ?_ | refine Zo ?_ | refine ok_ret ?_ | refine Zt ?_
  all_goals (refine ret_vb ?_; unfold writesS; grind)
def wrapS (v : Int) : Int := IntKind.i64.wrap (IntKind.i32.wrap v)
theorem swrap_ok (v : Int) : PFun X 39 [vi v] (vi (wrapS v)) := by
  refine pfun_of Tryz.func39 rfl (by decide) Tryz.ntmps39 Tryz.results39 (by simp) rfl rfl ?_
  repeat' first
    | refine Z1 ?_ | refine Z2 ?_ | refine Z5 ?_ | refine Ycv ?_ | refine Zo ?_ | refine ok_ret ?_ | refine Zt ?_
  rfl
end Go.Pm
/- Machines of the specification: the parts of an If, nesting. -/
set_option linter.unusedVariables false
set_option linter.unusedSimpArgs false
namespace Go.Pm
attribute [local irreducible] AR Ok inBlock andThen endQ aoper
set_option maxHeartbeats 1000000
open Go.Proofs
def tupI (p : Int × Int) : AV := .tup [vi p.1, vi p.2]
theorem ret_tupI {a b : Int} {p : Int × Int} (h : (a, b) = p) : AEnd.ret (.tup [vi a, vi b]) = AEnd.ret (tupI p) := by rw [← h]; rfl
theorem sparts_ok (l : List Sm) (i : Nat) (hi : i ≤ l.length) (hl : l.length ≤ 1048576) : PFun X 42 [.d (.im (l.map eSm)), vi i] (tupI (partsS l i)) := by
  refine pfun_of Tryz.func42 rfl (by decide) Tryz.ntmps42 Tryz.results42 (by simp) rfl rfl ?_
  repeat' first
    | refine Z1 ?_ | refine Z2 ?_ | refine Zo ?_ | refine ok_seq ?_ | refine ok_block ?_
  refine ok_for (ι := Nat × Int × Int) (fun x_ => envL [(0, .d (.im (l.map eSm))), (4, vi 0), (5, vi 0), (6, vi x_.2.1), (7, vi x_.2.2), (8, vi x_.1)]) (fun x_ => stL []) (fun x_ => i ≤ x_.1 ∧ x_.1 ≤ l.length ∧ -(x_.1 : Int) ≤ x_.2.1 ∧ x_.2.1 ≤ (x_.1 : Int) ∧ partsGo (l.drop x_.1) x_.1 x_.2.1 x_.2.2 = partsS l i) (fun x_ => l.length - x_.1) (i, 0, -1) (⟨Nat.le_refl _, hi, by simp only; omega, by simp only; omega, rfl⟩) (weak_mk rfl ⟨.refl _, .refl _, .refl _, .refl _, .refl _, .refl _, trivial⟩ trivial) (fun _ => Nat.le_refl 0) ?_
  rintro ⟨j, d, o⟩ ⟨i1, i2, i3, i4, i5⟩
  simp only at i1 i2 i3 i4 i5
  dsimp only
  rcases hx : l[j]? with _ | s
  · have hle := none_le hx
    have ek : decide ((j : Int) < (l.length : Int)) = false := decide_eq_false (by omega)
    rw [drop_none hx] at i5
    repeat' first
      | refine Z1 ?_ | refine Z2 ?_ | refine Z5 ?_ | refine Zd ?_ | refine ret2 ?_ | refine Zo ?_ | refine ok_seq ?_ | refine Zq ?_ | refine ok_exit ?_ | refine ok_ret ?_ | refine x_normal_then ?_ | refine x_exit_here ?_
      | refine Zv ?_
    exact ret_tupI i5
  obtain ⟨hd, hlt⟩ := drop_some hx
  have ek : decide ((j : Int) < (l.length : Int)) = true := decide_eq_true (by omega)
  rw [hd] at i5
  simp only [partsGo] at i5
  by_cases k4 : s.kind = 4
  · have d4 : decide (s.kind = 4) = true := decide_eq_true k4
    rw [if_pos k4] at i5
    repeat' first
      | refine Z1 ?_ | refine Z2 ?_ | refine Z3 ?_ | refine Z5 ?_ | refine Zd ?_ | refine Ze ?_ | refine Zf ?_ | refine Zo ?_ | refine ok_seq ?_ | refine ok_reg ?_ | refine Zp ?_ | refine ok_block ?_ | refine ok_skip ?_
      | refine x_normal_then ?_ | refine x_normal_block ?_
    exact ⟨(j + 1, d + 1, o), ⟨by simp only; omega, hlt, by simp only; omega, by simp only; omega, i5⟩, by (try simp only); omega, low_mk (Nat.zero_le _) ⟨⟨rfl, rfl⟩, ⟨rfl, rfl⟩, ⟨rfl, rfl⟩, ⟨rfl, rfl⟩, ⟨rfl, rfl⟩, ⟨rfl, rfl⟩, trivial⟩ trivial⟩
  have d4 : decide (s.kind = 4) = false := decide_eq_false k4
  rw [if_neg k4] at i5
  by_cases k5 : s.kind = 5
  · have d5 : decide (s.kind = 5) = true := decide_eq_true k5
    rw [if_pos k5] at i5
    by_cases h1 : d = 1
    · have e1 : decide (d = 1) = true := decide_eq_true h1
      rw [if_pos h1] at i5
      by_cases h0 : 0 ≤ o
      · have e0 : decide (0 ≤ o) = true := decide_eq_true h0
        rw [if_pos h0] at i5
        repeat' first
          | refine Z1 ?_ | refine Z2 ?_ | refine Z5 ?_ | refine Zd ?_ | refine Ze ?_ | refine ret2 ?_ | refine Zo ?_ | refine ok_seq ?_ | refine Zp ?_ | refine Zq ?_ | refine ok_block ?_ | refine ok_skip ?_ | refine ok_ret ?_
          | refine x_normal_then ?_ | refine x_ret_then ?_ | refine x_ret_block ?_
        exact ret_tupI i5
      · have e0 : decide (0 ≤ o) = false := decide_eq_false h0
        rw [if_neg h0] at i5
        repeat' first
          | refine Z1 ?_ | refine Z2 ?_ | refine Z3 ?_ | refine Z5 ?_ | refine Zd ?_ | refine Ze ?_ | refine Zf ?_ | refine Zo ?_ | refine ok_seq ?_ | refine ok_reg ?_ | refine Zp ?_ | refine Zq ?_ | refine ok_block ?_
          | refine ok_skip ?_ | refine x_normal_then ?_ | refine x_normal_block ?_
        exact ⟨(j + 1, d, (j : Int)), ⟨by simp only; omega, hlt, by simp only; omega, by simp only; omega, i5⟩, by (try simp only); omega, low_mk (Nat.zero_le _) ⟨⟨rfl, rfl⟩, ⟨rfl, rfl⟩, ⟨rfl, rfl⟩, ⟨rfl, rfl⟩, ⟨rfl, rfl⟩, ⟨rfl, rfl⟩, trivial⟩ trivial⟩
    · have e1 : decide (d = 1) = false := decide_eq_false h1
      rw [if_neg h1] at i5
      repeat' first
        | refine Z1 ?_ | refine Z2 ?_ | refine Z5 ?_ | refine Zd ?_ | refine Ze ?_ | refine Zf ?_ | refine Zo ?_ | refine ok_seq ?_ | refine ok_reg ?_ | refine Zp ?_ | refine Zq ?_ | refine ok_block ?_ | refine ok_skip ?_
        | refine x_normal_then ?_ | refine x_normal_block ?_
      exact ⟨(j + 1, d, o), ⟨by simp only; omega, hlt, by simp only; omega, by simp only; omega, i5⟩, by (try simp only); omega, low_mk (Nat.zero_le _) ⟨⟨rfl, rfl⟩, ⟨rfl, rfl⟩, ⟨rfl, rfl⟩, ⟨rfl, rfl⟩, ⟨rfl, rfl⟩, ⟨rfl, rfl⟩, trivial⟩ trivial⟩
  have d5 : decide (s.kind = 5) = false := decide_eq_false k5
  rw [if_neg k5] at i5
  by_cases k6 : s.kind = 6
  · have d6 : decide (s.kind = 6) = true := decide_eq_true k6
    rw [if_pos k6] at i5
    by_cases h1 : d - 1 = 0
    · have e1 : decide (d - 1 = 0) = true := decide_eq_true h1
      rw [if_pos h1] at i5
      repeat' first
        | refine Z1 ?_ | refine Z2 ?_ | refine Z5 ?_ | refine Zd ?_ | refine Ze ?_ | refine Zg ?_ | refine ret2 ?_ | refine Zo ?_ | refine ok_seq ?_ | refine Zp ?_ | refine Zq ?_ | refine ok_block ?_ | refine ok_skip ?_
        | refine ok_ret ?_ | refine x_normal_then ?_ | refine x_ret_then ?_ | refine x_ret_block ?_
      exact ret_tupI i5
    · have e1 : decide (d - 1 = 0) = false := decide_eq_false h1
      rw [if_neg h1] at i5
      repeat' first
        | refine Z1 ?_ | refine Z2 ?_ | refine Z5 ?_ | refine Zd ?_ | refine Ze ?_ | refine Zf ?_ | refine Zg ?_ | refine Zo ?_ | refine ok_seq ?_ | refine ok_reg ?_ | refine Zp ?_ | refine Zq ?_ | refine ok_block ?_
        | refine ok_skip ?_ | refine x_normal_then ?_ | refine x_normal_block ?_
      exact ⟨(j + 1, d - 1, o), ⟨by simp only; omega, hlt, by simp only; omega, by simp only; omega, i5⟩, by (try simp only); omega, low_mk (Nat.zero_le _) ⟨⟨rfl, rfl⟩, ⟨rfl, rfl⟩, ⟨rfl, rfl⟩, ⟨rfl, rfl⟩, ⟨rfl, rfl⟩, ⟨rfl, rfl⟩, trivial⟩ trivial⟩
  have d6 : decide (s.kind = 6) = false := decide_eq_false k6
  rw [if_neg k6] at i5
  repeat' first
    | refine Z1 ?_ | refine Z2 ?_ | refine Z5 ?_ | refine Zd ?_ | refine Ze ?_ | refine Zf ?_ | refine Zo ?_ | refine ok_seq ?_ | refine ok_reg ?_ | refine Zp ?_ | refine Zq ?_ | refine ok_block ?_ | refine ok_skip ?_
    | refine x_normal_then ?_ | refine x_normal_block ?_
  exact ⟨(j + 1, d, o), ⟨by simp only; omega, hlt, by simp only; omega, by simp only; omega, i5⟩, by (try simp only); omega, low_mk (Nat.zero_le _) ⟨⟨rfl, rfl⟩, ⟨rfl, rfl⟩, ⟨rfl, rfl⟩, ⟨rfl, rfl⟩, ⟨rfl, rfl⟩, ⟨rfl, rfl⟩, trivial⟩ trivial⟩
end Go.Pm
