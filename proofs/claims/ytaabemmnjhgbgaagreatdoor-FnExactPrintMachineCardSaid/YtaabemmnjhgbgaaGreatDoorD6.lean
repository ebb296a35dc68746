/- The specification's machine text. -/
import Derived.Test.YtaabemmnjhgbgaaGreatDoorD5
import Derived.Test.YtaabemmnjhgbgaaGreatDoorD2
import Derived.Test.YtaabemmnjhgbgaaGreatDoorB5
import Derived.Test.YtaabemmnjhgbgaaGreatDoorB6
set_option linter.unusedVariables false
set_option linter.unusedSimpArgs false
namespace Go.Pm
attribute [local irreducible] AR Ok inBlock andThen endQ aoper
set_option maxHeartbeats 8000000
open Go.Proofs
def chS (c : Cls) : ByteArray := B [99, 108, 97, 115, 115, 32] ++ c.name
def inS4 : ByteArray := B [105, 110, 32]
def outS4 : ByteArray := B [111, 117, 116, 32]
def slotS (w : ByteArray) (x : Slt) : ByteArray := w ++ x.name ++ B [32] ++ tyT x.type
def locS (x : ByteArray) : ByteArray := B [108, 111, 99, 32] ++ x
def memS (v : Int) : ByteArray := B [109, 101, 109, 32] ++ itoaB v
def useS (cs : List Cls) (g : Int) : ByteArray := B [117, 115, 101, 32] ++ nameOf cs g
def endS : ByteArray := B [101, 110, 100, 99, 108, 97, 115, 115]
def clsL (cs : List Cls) (c : Cls) : List ByteArray := chS c :: (c.ins.map (slotS inS4) ++ (c.outs.map (slotS outS4) ++ (c.locs.map locS ++ (c.mems.map memS ++ (c.insts.map (useS cs) ++ (c.body.map slineT ++ [endS]))))))
def linesGo (cs : List Cls) : List Cls → List ByteArray
  | [] => []
  | c :: r => clsL cs c ++ linesGo cs r
def lnT (s : ByteArray) : ByteArray := s ++ B [10]
def textS (cs : List Cls) : ByteArray := catT lnT (linesGo cs cs)
theorem linesGo_len (cs : List Cls) : ∀ l : List Cls, (linesGo cs l).length ≤ 2 * wL wCls l
  | [] => by simp [linesGo]
  | c :: r => by
    have ih := linesGo_len cs r
    simp only [linesGo, clsL, List.length_append, List.length_cons, List.length_map, List.length_nil, wL, wCls, List.map_cons, List.sum_cons] at ih ⊢
    omega
theorem psh {u t full : List ByteArray} {a : ByteArray} (h : u ++ (a :: t) = full) : (u ++ [a]) ++ t = full := by rw [← h]; simp
theorem len_of {u a full : List ByteArray} {M : Nat} (h : u ++ a = full) (hf : full.length ≤ M) : u.length ≤ M := by
  have := congrArg List.length h
  rw [List.length_append] at this
  omega
def okQ (cs : List Cls) : Prop := ∀ (k : Nat) (c : Cls), cs[k]? = some c → (∀ g ∈ c.insts, 0 ≤ g ∧ g < (k : Int)) ∧ (∀ v ∈ c.mems, R63 v) ∧ ∀ s ∈ c.body, R63 s.pos ∧ (∀ x ∈ s.code, okI x) ∧ (∀ a ∈ s.args, ∀ x ∈ a, okI x) ∧ (slineT s).size ≤ 140737488355328
theorem spm_ok (cs : List Cls) (hw : wL wCls cs ≤ 1048576) (hq : mokS cs = true → okQ cs ∧ (textS cs).size ≤ 140737488355328) : PFun X 5 [.agg [.d (.im (cs.map eCls))]] (vs (if mokS cs then textS cs else B [])) := by
  have hcl : cs.length ≤ 1048576 := by simp only [wL] at hw; omega
  refine pfun_of Tryz.func5 rfl (by decide) Tryz.ntmps5 Tryz.results5 (by simp) rfl rfl ?_
  cases hm : mokS cs with
  | false =>
    have hms := smok_ok cs hw
    rw [hm] at hms
    have hn : (!false) = true := rfl
    repeat' first
      | refine Z1 ?_ | refine Z2 ?_ | refine Z5 ?_ | refine Zc (hms) ?_ | refine Zo ?_ | refine ok_seq ?_ | refine Zp ?_ | refine ok_ret ?_ | refine x_ret_then ?_ | refine Zt ?_
    rfl
  | true =>
  obtain ⟨hp, hts⟩ := hq hm
  have hms := smok_ok cs hw
  rw [hm] at hms
  rw [if_pos rfl]
  have hll := linesGo_len cs cs
  unfold textS at hts ⊢
  generalize hfull : linesGo cs cs = full at hll hts
  have hll : full.length ≤ 2097152 := by omega
  have hn : (!true) = false := rfl
  repeat' first
    | refine Z1 ?_ | refine Z2 ?_ | refine Z5 ?_ | refine Zc (hms) ?_ | refine op_bslice rfl rfl rfl rfl rfl rfl rfl ?_ | refine Zd ?_ | refine Zo ?_ | refine ok_seq ?_ | refine Zq ?_ | refine ok_block ?_ | refine ok_skip ?_
    | refine x_normal_then ?_
  refine ok_forR (ι := Nat × List ByteArray) (fun x_ => envL [(1, .ref 0 0), (3, .sl 1 2 0 x_.2.length), (26, .d (.im (cs.map eCls))), (27, vi cs.length), (28, vi x_.1)]) (fun x_ => stL [some (.var [.d (.im (cs.map eCls))]), some (.row 2 9 1 (im2 eStr x_.2)), none]) (fun x_ => x_.1 ≤ cs.length ∧ x_.2 ++ linesGo cs (cs.drop x_.1) = full) (fun x_ => cs.length - x_.1) (0, []) (⟨Nat.zero_le _, hfull⟩) Turn.refl (lowR_mk [(2, 1)] rfl rfl rfl ⟨⟨rfl, rfl⟩, ⟨rfl, rfl⟩, ⟨rfl, rfl⟩, ⟨rfl, rfl⟩, ⟨rfl, rfl⟩, trivial⟩ ⟨⟨rfl, rfl⟩, ⟨renO_row rfl (by first | exact im2_ren _ _ _ | rfl), blt_lt rfl, im2_low _ _ _⟩, trivial⟩) ?_
  rintro ⟨p, L⟩ ⟨i1, i2⟩
  simp only at i1 i2
  by_cases hk : p < cs.length
  rotate_left
  · have ek : decide ((p : Int) < (cs.length : Int)) = false := decide_eq_false (by omega)
    rw [List.drop_eq_nil_of_le (by omega)] at i2
    simp only [linesGo, List.append_nil] at i2
    subst i2
    repeat' first
      | refine Z1 ?_ | refine Z2 ?_ | refine Z5 ?_ | refine op_bslice rfl rfl rfl rfl rfl rfl rfl ?_ | refine Zo ?_ | refine ok_seq ?_ | refine Zq ?_ | refine ok_block ?_ | refine ok_exit ?_ | refine x_normal_then ?_
      | refine x_exit_here ?_ | refine Zv ?_
    generalize htx : catT lnT L = text at hts
    refine ok_forR (ι := Nat × ByteArray) (fun x_ => envL [(18, .sl 3 4 0 x_.2.size), (139, .sl 1 2 0 L.length), (140, vi L.length), (141, vi x_.1)]) (fun x_ => stL [none, some (.row 2 9 1 (im2 eStr L)), none, some (.row 4 5 1 (byteRows x_.2)), none]) (fun x_ => x_.1 ≤ L.length ∧ x_.2 ++ catT lnT (L.drop x_.1) = text) (fun x_ => L.length - x_.1) (0, B []) (⟨Nat.zero_le _, by rw [nil_ba]; exact htx⟩) Turn.refl (lowR_mk [(4, 3)] rfl rfl rfl ⟨⟨rfl, rfl⟩, ⟨rfl, rfl⟩, ⟨rfl, rfl⟩, ⟨rfl, rfl⟩, trivial⟩ ⟨⟨renO_row rfl (by first | exact im2_ren _ _ _ | rfl), blt_lt rfl, im2_low _ _ _⟩, ⟨renO_row rfl (by first | exact byteRows_ren _ _ | rfl), blt_lt rfl, byteRows_low _ _⟩, trivial⟩) ?_
    rintro ⟨k, u⟩ ⟨j1, j2⟩
    simp only at j1 j2
    rcases hx : L[k]? with _ | x
    · have hle := none_le hx
      have ek2 : decide ((k : Int) < (L.length : Int)) = false := decide_eq_false (by omega)
      rw [drop_none hx] at j2
      simp only [catT, ba_nil] at j2
      repeat' first
        | refine Up (w := u) (i := 3) (v := 4) rfl rfl ?_ | refine Z1 ?_ | refine Z2 ?_ | refine Zo ?_ | refine ok_seq ?_ | refine Zq ?_ | refine ok_exit ?_ | refine ok_ret ?_ | refine x_normal_then ?_ | refine x_exit_here ?_
        | refine Zv ?_ | refine Zt ?_
      exact congrArg (fun v => AEnd.ret (vs v)) j2
    obtain ⟨hd, hlt⟩ := drop_some hx
    have ek2 : decide ((k : Int) < (L.length : Int)) = true := decide_eq_true (by omega)
    have hr : (im2 eStr L)[k]? = some ((eStr x).map .d) := im2_get hx
    rw [hd] at j2
    simp only [catT, lnT] at j2
    rw [ba_assoc] at j2
    have z1 := sz_of j2 hts
    have j2 := nx_of j2
    have z2 := sz_of j2 hts
    have j2 := nx_of j2
    repeat' first
      | refine Z1 ?_ | refine Z2 ?_ | refine Z3 ?_ | refine Z4 ?_ | refine Z5 ?_ | refine Yf (n := (k : Int)) k rfl hlt ?_ | refine Ye hr ?_ | refine Ui (i := 3) (v := 4) (w := u) (u := x) rfl z1 ?_
      | refine Uo (i := 3) (v := 5) (w := u ++ x) (c := 10) rfl z2 ?_ | refine Zf ?_ | refine Zo ?_ | refine ok_seq ?_ | refine ok_reg ?_ | refine Zp ?_ | refine ok_block ?_ | refine ok_skip ?_ | refine x_normal_then ?_
      | refine x_normal_block ?_
    exact ⟨(k + 1, u ++ x ++ B [10]), ⟨hlt, j2⟩, by (try simp only); omega, lowR_mk [(4, 7)] rfl rfl rfl ⟨⟨rfl, rfl⟩, ⟨rfl, rfl⟩, ⟨rfl, rfl⟩, ⟨rfl, rfl⟩, trivial⟩ ⟨⟨renO_row rfl (by first | exact im2_ren _ _ _ | rfl), blt_lt rfl, im2_low _ _ _⟩, ⟨renO_row rfl (by first | exact byteRows_ren _ _ | rfl), blt_lt rfl, byteRows_low _ _⟩, trivial⟩⟩
  obtain ⟨c, hx⟩ : ∃ c, cs[p]? = some c := ⟨cs[p], List.getElem?_eq_getElem hk⟩
  obtain ⟨hd, _⟩ := drop_some hx
  have ek : decide ((p : Int) < (cs.length : Int)) = true := decide_eq_true (by omega)
  have hwc : wCls c ≤ 1048576 := by have := wL_mem (w := wCls) (List.mem_of_getElem? hx); simp only [wL] at hw; omega
  have hcl2 : c.name.size + c.ins.length + c.outs.length + c.locs.length + c.mems.length + c.insts.length + c.body.length ≤ 1048576 := by simp only [wCls, wL] at hwc; omega
  obtain ⟨p1, p2, p3⟩ := hp p c hx
  rw [hd] at i2
  simp only [linesGo, clsL, List.cons_append, List.append_assoc, List.nil_append] at i2
  generalize hM : linesGo cs (cs.drop (p + 1)) = M at i2
  have hL0 := len_of i2 hll
  have i2 := psh i2
  have hb0 : (B [99, 108, 97, 115, 115, 32] ++ c.name).size ≤ 9223372036854775807 := by
    simp only [ByteArray.size_append]
    have : (B [99, 108, 97, 115, 115, 32]).size = 6 := rfl
    omega
  repeat' first
    | refine Z1 ?_ | refine Z2 ?_ | refine Z4 ?_ | refine Z5 ?_ | refine Ul (a := B [99, 108, 97, 115, 115, 32]) (b := c.name) (hb := hb0) ?_ | refine Yl (e := eStr) (l := L) [chS c] ?_ | refine Zd ?_ | refine Ze ?_ | refine Zo ?_
    | refine ok_seq ?_ | refine Zp ?_ | refine ok_block ?_ | refine ok_skip ?_ | refine x_normal_then ?_
  have hn1 : ∀ x ∈ c.ins, x.name.size ≤ 1048576 := fun x hx => by have := wL_mem (w := wSlt) hx; have e : wSlt x = x.name.size := rfl; simp only [wCls, wL] at hwc; omega
  have hn2 : ∀ x ∈ c.outs, x.name.size ≤ 1048576 := fun x hx => by have := wL_mem (w := wSlt) hx; have e : wSlt x = x.name.size := rfl; simp only [wCls, wL] at hwc; omega
  have hn3 : ∀ x ∈ c.locs, x.size ≤ 1048576 := fun x hx => by have := wL_mem (w := wStr) hx; have e : wStr x = x.size := rfl; simp only [wCls, wL] at hwc; omega
  have hn4 : ∀ x ∈ c.body, wSm x ≤ 1048576 := fun x hx => by have := wL_mem (w := wSm) hx; simp only [wCls, wL] at hwc; omega
  have hn5 : ∀ d ∈ cs, d.name.size ≤ 1048576 := fun d hd => by have := wL_mem (w := wCls) hd; have e : d.name.size ≤ wCls d := (by simp only [wCls]; omega); simp only [wL] at hw; omega
  obtain ⟨R1, hR1⟩ : ∃ R, R = c.outs.map (slotS outS4) ++ (c.locs.map locS ++ (c.mems.map memS ++ (c.insts.map (useS cs) ++ (c.body.map slineT ++ (endS :: M))))) := ⟨_, rfl⟩
  rw [← hR1] at i2
  refine ok_forR (ι := Nat × List ByteArray) (fun x_ => envL [(1, .ref 0 0), (26, .d (.im (cs.map eCls))), (27, vi cs.length), (28, vi p), (5, .ref 3 0), (3, .sl 1 6 0 x_.2.length), (39, .d (.im (c.ins.map eSlt))), (40, vi c.ins.length), (41, vi x_.1)]) (fun x_ => stL [some (.var [.d (.im (cs.map eCls))]), some (.row 6 9 1 (im2 eStr x_.2)), none, some (.var ((eCls c).map .d)), none, none, none]) (fun x_ => x_.1 ≤ c.ins.length ∧ x_.2 ++ ((c.ins.drop x_.1).map (slotS inS4) ++ R1) = full) (fun x_ => c.ins.length - x_.1) (0, L ++ [chS c]) (⟨Nat.zero_le _, i2⟩) Turn.refl (lowR_mk [(6, 5)] rfl rfl rfl ⟨⟨rfl, rfl⟩, ⟨rfl, rfl⟩, ⟨rfl, rfl⟩, ⟨rfl, rfl⟩, ⟨rfl, rfl⟩, ⟨rfl, rfl⟩, ⟨rfl, rfl⟩, ⟨rfl, rfl⟩, ⟨rfl, rfl⟩, trivial⟩ ⟨⟨rfl, rfl⟩, ⟨renO_row rfl (by first | exact im2_ren _ _ _ | rfl), blt_lt rfl, im2_low _ _ _⟩, ⟨rfl, rfl⟩, trivial⟩) ?_
  clear i2
  rintro ⟨k, J⟩ ⟨j1, j2⟩
  simp only at j1 j2
  by_cases hyl : k < c.ins.length
  · obtain ⟨y, hy⟩ : ∃ y, c.ins[k]? = some y := ⟨c.ins[k], List.getElem?_eq_getElem hyl⟩
    obtain ⟨hd2, hlt⟩ := drop_some hy
    have hym := List.mem_of_getElem? hy
    have ey : decide ((k : Int) < (c.ins.length : Int)) = true := decide_eq_true (by omega)
    rw [hd2, List.map_cons, List.cons_append] at j2
    have hJ := len_of j2 hll
    have j2 := psh j2
    have hn1 := hn1 y hym
    have hn2 : (tyT y.type).size ≤ 4 := by unfold tyT; split <;> decide
    have hw4 : (B [105, 110, 32]).size ≤ 4 := by decide
    have hb1 : (B [105, 110, 32] ++ y.name).size ≤ 9223372036854775807 := by simp only [ByteArray.size_append]; omega
    have hb2 : (B [105, 110, 32] ++ y.name ++ B [32]).size ≤ 9223372036854775807 := by
      simp only [ByteArray.size_append]
      have : (B [32]).size = 1 := rfl
      omega
    have hb3 : (B [105, 110, 32] ++ y.name ++ B [32] ++ tyT y.type).size ≤ 9223372036854775807 := by
      simp only [ByteArray.size_append]
      have : (B [32]).size = 1 := rfl
      omega
    repeat' first
      | refine Z1 ?_ | refine Z2 ?_ | refine Z5 ?_ | refine Ze ?_ | refine Zo ?_ | refine ok_seq ?_ | refine Zp ?_ | refine ok_block ?_ | refine ok_skip ?_ | refine x_normal_then ?_
    refine ok_drawE (fun j => j = 7) [9, 10] X_mixed (by decide +kernel) ?_
    repeat' first
      | refine Wl (i := 7) rfl rfl ?_ | refine Wa ?_
    refine Wq (fun σ' _ => Ul (a := B [105, 110, 32]) (b := y.name) ⟨rfl, rfl⟩ (hb := hb1)) ?_
    refine Wq (fun σ' _ => Ul (a := B [105, 110, 32] ++ y.name) (b := B [32]) ⟨rfl, rfl⟩ (hb := hb2)) ?_
    repeat' first
      | refine Wl (i := 7) rfl rfl ?_ | refine Wa ?_
    refine Wq (fun σ' _ => Zc (typ_ok y.type) ⟨rfl, rfl⟩) ?_
    refine Wq (fun σ' _ => Ul (a := B [105, 110, 32] ++ y.name ++ B [32]) (b := tyT y.type) ⟨rfl, rfl⟩ (hb := hb3)) ?_
    refine We (Yw (sz := 1) (rows := [[vs (slotS inS4 y)]]) (n := 8) ⟨rfl, rfl⟩) (.inr (fun j hj => by rw [St.obj_alloc, if_neg (by show ¬ j = 8; omega)])) ?_
    refine We (app4 (e := eStr) (l := J) (y := slotS inS4 y) (i := 1) (h := 6) (k := 8) (v := 8) rfl rfl (fun _ => rfl) ⟨rfl, rfl⟩) (.inr (fun j hj => by rw [obj_bumpSet, if_neg (by omega)])) ?_
    refine Wa ?_
    first | refine Wx ?_ | refine Wy ?_
    repeat' first
      | refine Z1 ?_ | refine Z2 ?_ | refine Z5 ?_ | refine Zf ?_ | refine ok_reg ?_ | refine x_normal_then ?_ | refine x_normal_block ?_
    exact ⟨(k + 1, J ++ [slotS inS4 y]), ⟨hlt, j2⟩, by (try simp only); omega, lowR_mk [(6, 9)] rfl rfl rfl ⟨⟨rfl, rfl⟩, ⟨rfl, rfl⟩, ⟨rfl, rfl⟩, ⟨rfl, rfl⟩, ⟨rfl, rfl⟩, ⟨rfl, rfl⟩, ⟨rfl, rfl⟩, ⟨rfl, rfl⟩, ⟨rfl, rfl⟩, trivial⟩ ⟨⟨rfl, rfl⟩, ⟨renO_row rfl (by first | exact im2_ren _ _ _ | rfl), blt_lt rfl, im2_low _ _ _⟩, ⟨rfl, rfl⟩, trivial⟩⟩
  have ey : decide ((k : Int) < (c.ins.length : Int)) = false := decide_eq_false (by omega)
  rw [List.drop_eq_nil_of_le (by omega)] at j2
  simp only [List.map_nil, List.nil_append] at j2
  rw [hR1] at j2
  repeat' first
    | refine Z1 ?_ | refine Z2 ?_ | refine Z5 ?_ | refine Zd ?_ | refine Zo ?_ | refine ok_seq ?_ | refine Zq ?_ | refine ok_block ?_ | refine ok_exit ?_ | refine x_normal_then ?_ | refine x_exit_here ?_ | refine Zv ?_
  obtain ⟨R2, hR2⟩ : ∃ R, R = c.locs.map locS ++ (c.mems.map memS ++ (c.insts.map (useS cs) ++ (c.body.map slineT ++ (endS :: M)))) := ⟨_, rfl⟩
  rw [← hR2] at j2
  refine ok_forR (ι := Nat × List ByteArray) (fun x_ => envL [(1, .ref 0 0), (26, .d (.im (cs.map eCls))), (27, vi cs.length), (28, vi p), (5, .ref 3 0), (3, .sl 1 7 0 x_.2.length), (58, .d (.im (c.outs.map eSlt))), (59, vi c.outs.length), (60, vi x_.1)]) (fun x_ => stL [some (.var [.d (.im (cs.map eCls))]), some (.row 7 9 1 (im2 eStr x_.2)), none, some (.var ((eCls c).map .d)), none, none, none, none]) (fun x_ => x_.1 ≤ c.outs.length ∧ x_.2 ++ ((c.outs.drop x_.1).map (slotS outS4) ++ R2) = full) (fun x_ => c.outs.length - x_.1) (0, J) (⟨Nat.zero_le _, j2⟩) Turn.refl (lowR_mk [(7, 6)] rfl rfl rfl ⟨⟨rfl, rfl⟩, ⟨rfl, rfl⟩, ⟨rfl, rfl⟩, ⟨rfl, rfl⟩, ⟨rfl, rfl⟩, ⟨rfl, rfl⟩, ⟨rfl, rfl⟩, ⟨rfl, rfl⟩, ⟨rfl, rfl⟩, trivial⟩ ⟨⟨rfl, rfl⟩, ⟨renO_row rfl (by first | exact im2_ren _ _ _ | rfl), blt_lt rfl, im2_low _ _ _⟩, ⟨rfl, rfl⟩, trivial⟩) ?_
  clear j2
  rintro ⟨k, J⟩ ⟨j1, j2⟩
  simp only at j1 j2
  by_cases hyl : k < c.outs.length
  · obtain ⟨y, hy⟩ : ∃ y, c.outs[k]? = some y := ⟨c.outs[k], List.getElem?_eq_getElem hyl⟩
    obtain ⟨hd2, hlt⟩ := drop_some hy
    have hym := List.mem_of_getElem? hy
    have ey : decide ((k : Int) < (c.outs.length : Int)) = true := decide_eq_true (by omega)
    rw [hd2, List.map_cons, List.cons_append] at j2
    have hJ := len_of j2 hll
    have j2 := psh j2
    have hn1 := hn2 y hym
    have hn2 : (tyT y.type).size ≤ 4 := by unfold tyT; split <;> decide
    have hw4 : (B [111, 117, 116, 32]).size ≤ 4 := by decide
    have hb1 : (B [111, 117, 116, 32] ++ y.name).size ≤ 9223372036854775807 := by simp only [ByteArray.size_append]; omega
    have hb2 : (B [111, 117, 116, 32] ++ y.name ++ B [32]).size ≤ 9223372036854775807 := by
      simp only [ByteArray.size_append]
      have : (B [32]).size = 1 := rfl
      omega
    have hb3 : (B [111, 117, 116, 32] ++ y.name ++ B [32] ++ tyT y.type).size ≤ 9223372036854775807 := by
      simp only [ByteArray.size_append]
      have : (B [32]).size = 1 := rfl
      omega
    repeat' first
      | refine Z1 ?_ | refine Z2 ?_ | refine Z5 ?_ | refine Ze ?_ | refine Zo ?_ | refine ok_seq ?_ | refine Zp ?_ | refine ok_block ?_ | refine ok_skip ?_ | refine x_normal_then ?_
    refine ok_drawE (fun j => j = 8) [9, 10] X_mixed (by decide +kernel) ?_
    repeat' first
      | refine Wl (i := 8) rfl rfl ?_ | refine Wa ?_
    refine Wq (fun σ' _ => Ul (a := B [111, 117, 116, 32]) (b := y.name) ⟨rfl, rfl⟩ (hb := hb1)) ?_
    refine Wq (fun σ' _ => Ul (a := B [111, 117, 116, 32] ++ y.name) (b := B [32]) ⟨rfl, rfl⟩ (hb := hb2)) ?_
    repeat' first
      | refine Wl (i := 8) rfl rfl ?_ | refine Wa ?_
    refine Wq (fun σ' _ => Zc (typ_ok y.type) ⟨rfl, rfl⟩) ?_
    refine Wq (fun σ' _ => Ul (a := B [111, 117, 116, 32] ++ y.name ++ B [32]) (b := tyT y.type) ⟨rfl, rfl⟩ (hb := hb3)) ?_
    refine We (Yw (sz := 1) (rows := [[vs (slotS outS4 y)]]) (n := 9) ⟨rfl, rfl⟩) (.inr (fun j hj => by rw [St.obj_alloc, if_neg (by show ¬ j = 9; omega)])) ?_
    refine We (app4 (e := eStr) (l := J) (y := slotS outS4 y) (i := 1) (h := 7) (k := 9) (v := 9) rfl rfl (fun _ => rfl) ⟨rfl, rfl⟩) (.inr (fun j hj => by rw [obj_bumpSet, if_neg (by omega)])) ?_
    refine Wa ?_
    first | refine Wx ?_ | refine Wy ?_
    repeat' first
      | refine Z1 ?_ | refine Z2 ?_ | refine Z5 ?_ | refine Zf ?_ | refine ok_reg ?_ | refine x_normal_then ?_ | refine x_normal_block ?_
    exact ⟨(k + 1, J ++ [slotS outS4 y]), ⟨hlt, j2⟩, by (try simp only); omega, lowR_mk [(7, 10)] rfl rfl rfl ⟨⟨rfl, rfl⟩, ⟨rfl, rfl⟩, ⟨rfl, rfl⟩, ⟨rfl, rfl⟩, ⟨rfl, rfl⟩, ⟨rfl, rfl⟩, ⟨rfl, rfl⟩, ⟨rfl, rfl⟩, ⟨rfl, rfl⟩, trivial⟩ ⟨⟨rfl, rfl⟩, ⟨renO_row rfl (by first | exact im2_ren _ _ _ | rfl), blt_lt rfl, im2_low _ _ _⟩, ⟨rfl, rfl⟩, trivial⟩⟩
  have ey : decide ((k : Int) < (c.outs.length : Int)) = false := decide_eq_false (by omega)
  rw [List.drop_eq_nil_of_le (by omega)] at j2
  simp only [List.map_nil, List.nil_append] at j2
  rw [hR2] at j2
  repeat' first
    | refine Z1 ?_ | refine Z2 ?_ | refine Z5 ?_ | refine Zd ?_ | refine Zo ?_ | refine ok_seq ?_ | refine Zq ?_ | refine ok_block ?_ | refine ok_exit ?_ | refine x_normal_then ?_ | refine x_exit_here ?_ | refine Zv ?_
  obtain ⟨R3, hR3⟩ : ∃ R, R = c.mems.map memS ++ (c.insts.map (useS cs) ++ (c.body.map slineT ++ (endS :: M))) := ⟨_, rfl⟩
  rw [← hR3] at j2
  refine ok_forR (ι := Nat × List ByteArray) (fun x_ => envL [(1, .ref 0 0), (26, .d (.im (cs.map eCls))), (27, vi cs.length), (28, vi p), (5, .ref 3 0), (3, .sl 1 8 0 x_.2.length), (77, .d (.im (c.locs.map eStr))), (78, vi c.locs.length), (79, vi x_.1)]) (fun x_ => stL [some (.var [.d (.im (cs.map eCls))]), some (.row 8 9 1 (im2 eStr x_.2)), none, some (.var ((eCls c).map .d)), none, none, none, none, none]) (fun x_ => x_.1 ≤ c.locs.length ∧ x_.2 ++ ((c.locs.drop x_.1).map locS ++ R3) = full) (fun x_ => c.locs.length - x_.1) (0, J) (⟨Nat.zero_le _, j2⟩) Turn.refl (lowR_mk [(8, 7)] rfl rfl rfl ⟨⟨rfl, rfl⟩, ⟨rfl, rfl⟩, ⟨rfl, rfl⟩, ⟨rfl, rfl⟩, ⟨rfl, rfl⟩, ⟨rfl, rfl⟩, ⟨rfl, rfl⟩, ⟨rfl, rfl⟩, ⟨rfl, rfl⟩, trivial⟩ ⟨⟨rfl, rfl⟩, ⟨renO_row rfl (by first | exact im2_ren _ _ _ | rfl), blt_lt rfl, im2_low _ _ _⟩, ⟨rfl, rfl⟩, trivial⟩) ?_
  clear j2
  rintro ⟨k, J⟩ ⟨j1, j2⟩
  simp only at j1 j2
  by_cases hyl : k < c.locs.length
  · obtain ⟨y, hy⟩ : ∃ y, c.locs[k]? = some y := ⟨c.locs[k], List.getElem?_eq_getElem hyl⟩
    obtain ⟨hd2, hlt⟩ := drop_some hy
    have hym := List.mem_of_getElem? hy
    have ey : decide ((k : Int) < (c.locs.length : Int)) = true := decide_eq_true (by omega)
    rw [hd2, List.map_cons, List.cons_append] at j2
    have hJ := len_of j2 hll
    have j2 := psh j2
    have hn := hn3 y hym
    have hb1 : (B [108, 111, 99, 32] ++ y).size ≤ 9223372036854775807 := by simp only [ByteArray.size_append]; have : (B [108, 111, 99, 32]).size = 4 := rfl; omega
    repeat' first
      | refine Z1 ?_ | refine Z2 ?_ | refine Z3 ?_ | refine Z4 ?_ | refine Z5 ?_ | refine Ul (a := B [108, 111, 99, 32]) (b := y) (hb := hb1) ?_ | refine Yl (e := eStr) (l := J) [locS y] ?_ | refine Ze ?_ | refine Zf ?_
      | refine Zo ?_ | refine ok_seq ?_ | refine ok_reg ?_ | refine Zp ?_ | refine ok_block ?_ | refine ok_skip ?_ | refine x_normal_then ?_ | refine x_normal_block ?_
    exact ⟨(k + 1, J ++ [locS y]), ⟨hlt, j2⟩, by (try simp only); omega, lowR_mk [(8, 10)] rfl rfl rfl ⟨⟨rfl, rfl⟩, ⟨rfl, rfl⟩, ⟨rfl, rfl⟩, ⟨rfl, rfl⟩, ⟨rfl, rfl⟩, ⟨rfl, rfl⟩, ⟨rfl, rfl⟩, ⟨rfl, rfl⟩, ⟨rfl, rfl⟩, trivial⟩ ⟨⟨rfl, rfl⟩, ⟨renO_row rfl (by first | exact im2_ren _ _ _ | rfl), blt_lt rfl, im2_low _ _ _⟩, ⟨rfl, rfl⟩, trivial⟩⟩
  have ey : decide ((k : Int) < (c.locs.length : Int)) = false := decide_eq_false (by omega)
  rw [List.drop_eq_nil_of_le (by omega)] at j2
  simp only [List.map_nil, List.nil_append] at j2
  rw [hR3] at j2
  repeat' first
    | refine Z1 ?_ | refine Z2 ?_ | refine Z5 ?_ | refine Zd ?_ | refine Zo ?_ | refine ok_seq ?_ | refine Zq ?_ | refine ok_block ?_ | refine ok_exit ?_ | refine x_normal_then ?_ | refine x_exit_here ?_ | refine Zv ?_
  obtain ⟨R4, hR4⟩ : ∃ R, R = c.insts.map (useS cs) ++ (c.body.map slineT ++ (endS :: M)) := ⟨_, rfl⟩
  rw [← hR4] at j2
  refine ok_forR (ι := Nat × List ByteArray) (fun x_ => envL [(1, .ref 0 0), (26, .d (.im (cs.map eCls))), (27, vi cs.length), (28, vi p), (5, .ref 3 0), (3, .sl 1 9 0 x_.2.length), (90, .d (.im (c.mems.map eNum))), (91, vi c.mems.length), (92, vi x_.1)]) (fun x_ => stL [some (.var [.d (.im (cs.map eCls))]), some (.row 9 9 1 (im2 eStr x_.2)), none, some (.var ((eCls c).map .d)), none, none, none, none, none, none]) (fun x_ => x_.1 ≤ c.mems.length ∧ x_.2 ++ ((c.mems.drop x_.1).map memS ++ R4) = full) (fun x_ => c.mems.length - x_.1) (0, J) (⟨Nat.zero_le _, j2⟩) Turn.refl (lowR_mk [(9, 8)] rfl rfl rfl ⟨⟨rfl, rfl⟩, ⟨rfl, rfl⟩, ⟨rfl, rfl⟩, ⟨rfl, rfl⟩, ⟨rfl, rfl⟩, ⟨rfl, rfl⟩, ⟨rfl, rfl⟩, ⟨rfl, rfl⟩, ⟨rfl, rfl⟩, trivial⟩ ⟨⟨rfl, rfl⟩, ⟨renO_row rfl (by first | exact im2_ren _ _ _ | rfl), blt_lt rfl, im2_low _ _ _⟩, ⟨rfl, rfl⟩, trivial⟩) ?_
  clear j2
  rintro ⟨k, J⟩ ⟨j1, j2⟩
  simp only at j1 j2
  by_cases hyl : k < c.mems.length
  · obtain ⟨y, hy⟩ : ∃ y, c.mems[k]? = some y := ⟨c.mems[k], List.getElem?_eq_getElem hyl⟩
    obtain ⟨hd2, hlt⟩ := drop_some hy
    have hym := List.mem_of_getElem? hy
    have ey : decide ((k : Int) < (c.mems.length : Int)) = true := decide_eq_true (by omega)
    rw [hd2, List.map_cons, List.cons_append] at j2
    have hJ := len_of j2 hll
    have j2 := psh j2
    obtain ⟨v1, v2⟩ := p2 y hym
    have hz := itoaB_len y (by omega) v2
    have hb1 : (B [109, 101, 109, 32] ++ itoaB y).size ≤ 9223372036854775807 := by simp only [ByteArray.size_append]; have : (B [109, 101, 109, 32]).size = 4 := rfl; omega
    repeat' first
      | refine Z1 ?_ | refine Z2 ?_ | refine Z3 ?_ | refine Z4 ?_ | refine Z5 ?_ | refine Zc (dec_ok y v1 v2) ?_ | refine Ul (a := B [109, 101, 109, 32]) (b := itoaB y) (hb := hb1) ?_ | refine Yl (e := eStr) (l := J) [memS y] ?_
      | refine Ze ?_ | refine Zf ?_ | refine Zo ?_ | refine ok_seq ?_ | refine ok_reg ?_ | refine Zp ?_ | refine ok_block ?_ | refine ok_skip ?_ | refine x_normal_then ?_ | refine x_normal_block ?_
    exact ⟨(k + 1, J ++ [memS y]), ⟨hlt, j2⟩, by (try simp only); omega, lowR_mk [(9, 11)] rfl rfl rfl ⟨⟨rfl, rfl⟩, ⟨rfl, rfl⟩, ⟨rfl, rfl⟩, ⟨rfl, rfl⟩, ⟨rfl, rfl⟩, ⟨rfl, rfl⟩, ⟨rfl, rfl⟩, ⟨rfl, rfl⟩, ⟨rfl, rfl⟩, trivial⟩ ⟨⟨rfl, rfl⟩, ⟨renO_row rfl (by first | exact im2_ren _ _ _ | rfl), blt_lt rfl, im2_low _ _ _⟩, ⟨rfl, rfl⟩, trivial⟩⟩
  have ey : decide ((k : Int) < (c.mems.length : Int)) = false := decide_eq_false (by omega)
  rw [List.drop_eq_nil_of_le (by omega)] at j2
  simp only [List.map_nil, List.nil_append] at j2
  rw [hR4] at j2
  repeat' first
    | refine Z1 ?_ | refine Z2 ?_ | refine Z5 ?_ | refine Zd ?_ | refine Zo ?_ | refine ok_seq ?_ | refine Zq ?_ | refine ok_block ?_ | refine ok_exit ?_ | refine x_normal_then ?_ | refine x_exit_here ?_ | refine Zv ?_
  obtain ⟨R5, hR5⟩ : ∃ R, R = c.body.map slineT ++ (endS :: M) := ⟨_, rfl⟩
  rw [← hR5] at j2
  refine ok_forR (ι := Nat × List ByteArray) (fun x_ => envL [(1, .ref 0 0), (26, .d (.im (cs.map eCls))), (27, vi cs.length), (28, vi p), (5, .ref 3 0), (3, .sl 1 10 0 x_.2.length), (104, .d (.im (c.insts.map eNum))), (105, vi c.insts.length), (106, vi x_.1)]) (fun x_ => stL [some (.var [.d (.im (cs.map eCls))]), some (.row 10 9 1 (im2 eStr x_.2)), none, some (.var ((eCls c).map .d)), none, none, none, none, none, none, none]) (fun x_ => x_.1 ≤ c.insts.length ∧ x_.2 ++ ((c.insts.drop x_.1).map (useS cs) ++ R5) = full) (fun x_ => c.insts.length - x_.1) (0, J) (⟨Nat.zero_le _, j2⟩) Turn.refl (lowR_mk [(10, 9)] rfl rfl rfl ⟨⟨rfl, rfl⟩, ⟨rfl, rfl⟩, ⟨rfl, rfl⟩, ⟨rfl, rfl⟩, ⟨rfl, rfl⟩, ⟨rfl, rfl⟩, ⟨rfl, rfl⟩, ⟨rfl, rfl⟩, ⟨rfl, rfl⟩, trivial⟩ ⟨⟨rfl, rfl⟩, ⟨renO_row rfl (by first | exact im2_ren _ _ _ | rfl), blt_lt rfl, im2_low _ _ _⟩, ⟨rfl, rfl⟩, trivial⟩) ?_
  clear j2
  rintro ⟨k, J⟩ ⟨j1, j2⟩
  simp only at j1 j2
  by_cases hyl : k < c.insts.length
  · obtain ⟨y, hy⟩ : ∃ y, c.insts[k]? = some y := ⟨c.insts[k], List.getElem?_eq_getElem hyl⟩
    obtain ⟨hd2, hlt⟩ := drop_some hy
    have hym := List.mem_of_getElem? hy
    have ey : decide ((k : Int) < (c.insts.length : Int)) = true := decide_eq_true (by omega)
    rw [hd2, List.map_cons, List.cons_append] at j2
    have hJ := len_of j2 hll
    have j2 := psh j2
    obtain ⟨g0, g1⟩ := p1 y hym
    obtain ⟨gn, hgn⟩ : ∃ gn : Nat, y = (gn : Int) := ⟨y.toNat, by omega⟩
    obtain ⟨d, hd3⟩ : ∃ d, cs[gn]? = some d := ⟨cs[gn]'(by omega), List.getElem?_eq_getElem (by omega)⟩
    have hnm : useS cs y = B [117, 115, 101, 32] ++ d.name := by unfold useS nameOf; rw [hgn, Int.toNat_natCast, hd3]
    have hn := hn5 d (List.mem_of_getElem? hd3)
    have hb1 : (B [117, 115, 101, 32] ++ d.name).size ≤ 9223372036854775807 := by simp only [ByteArray.size_append]; have : (B [117, 115, 101, 32]).size = 4 := rfl; omega
    rw [hnm] at j2
    repeat' first
      | refine Z1 ?_ | refine Z2 ?_ | refine Z3 ?_ | refine Z4 ?_ | refine Z5 ?_ | refine Yej (e := eCls) (n := y) gn hgn hd3 ?_ | refine Ul (a := B [117, 115, 101, 32]) (b := d.name) (hb := hb1) ?_
      | refine Yl (e := eStr) (l := J) [B [117, 115, 101, 32] ++ d.name] ?_ | refine Ze ?_ | refine Zf ?_ | refine Zo ?_ | refine ok_seq ?_ | refine ok_reg ?_ | refine Zp ?_ | refine ok_block ?_ | refine ok_skip ?_ | refine x_normal_then ?_
      | refine x_normal_block ?_
    exact ⟨(k + 1, J ++ [B [117, 115, 101, 32] ++ d.name]), ⟨hlt, j2⟩, by (try simp only); omega, lowR_mk [(10, 12)] rfl rfl rfl ⟨⟨rfl, rfl⟩, ⟨rfl, rfl⟩, ⟨rfl, rfl⟩, ⟨rfl, rfl⟩, ⟨rfl, rfl⟩, ⟨rfl, rfl⟩, ⟨rfl, rfl⟩, ⟨rfl, rfl⟩, ⟨rfl, rfl⟩, trivial⟩ ⟨⟨rfl, rfl⟩, ⟨renO_row rfl (by first | exact im2_ren _ _ _ | rfl), blt_lt rfl, im2_low _ _ _⟩, ⟨rfl, rfl⟩, trivial⟩⟩
  have ey : decide ((k : Int) < (c.insts.length : Int)) = false := decide_eq_false (by omega)
  rw [List.drop_eq_nil_of_le (by omega)] at j2
  simp only [List.map_nil, List.nil_append] at j2
  rw [hR5] at j2
  repeat' first
    | refine Z1 ?_ | refine Z2 ?_ | refine Z5 ?_ | refine Zd ?_ | refine Zo ?_ | refine ok_seq ?_ | refine Zq ?_ | refine ok_block ?_ | refine ok_exit ?_ | refine x_normal_then ?_ | refine x_exit_here ?_ | refine Zv ?_
  obtain ⟨R6, hR6⟩ : ∃ R, R = (endS :: M) := ⟨_, rfl⟩
  rw [← hR6] at j2
  refine ok_forR (ι := Nat × List ByteArray) (fun x_ => envL [(1, .ref 0 0), (26, .d (.im (cs.map eCls))), (27, vi cs.length), (28, vi p), (5, .ref 3 0), (3, .sl 1 11 0 x_.2.length), (122, .d (.im (c.body.map eSm))), (123, vi c.body.length), (124, vi x_.1)]) (fun x_ => stL [some (.var [.d (.im (cs.map eCls))]), some (.row 11 9 1 (im2 eStr x_.2)), none, some (.var ((eCls c).map .d)), none, none, none, none, none, none, none, none]) (fun x_ => x_.1 ≤ c.body.length ∧ x_.2 ++ ((c.body.drop x_.1).map slineT ++ R6) = full) (fun x_ => c.body.length - x_.1) (0, J) (⟨Nat.zero_le _, j2⟩) Turn.refl (lowR_mk [(11, 10)] rfl rfl rfl ⟨⟨rfl, rfl⟩, ⟨rfl, rfl⟩, ⟨rfl, rfl⟩, ⟨rfl, rfl⟩, ⟨rfl, rfl⟩, ⟨rfl, rfl⟩, ⟨rfl, rfl⟩, ⟨rfl, rfl⟩, ⟨rfl, rfl⟩, trivial⟩ ⟨⟨rfl, rfl⟩, ⟨renO_row rfl (by first | exact im2_ren _ _ _ | rfl), blt_lt rfl, im2_low _ _ _⟩, ⟨rfl, rfl⟩, trivial⟩) ?_
  clear j2
  rintro ⟨k, J⟩ ⟨j1, j2⟩
  simp only at j1 j2
  by_cases hyl : k < c.body.length
  · obtain ⟨y, hy⟩ : ∃ y, c.body[k]? = some y := ⟨c.body[k], List.getElem?_eq_getElem hyl⟩
    obtain ⟨hd2, hlt⟩ := drop_some hy
    have hym := List.mem_of_getElem? hy
    have ey : decide ((k : Int) < (c.body.length : Int)) = true := decide_eq_true (by omega)
    rw [hd2, List.map_cons, List.cons_append] at j2
    have hJ := len_of j2 hll
    have j2 := psh j2
    obtain ⟨q1, q2, q3, q4⟩ := p3 y hym
    repeat' first
      | refine Z1 ?_ | refine Z2 ?_ | refine Z3 ?_ | refine Z4 ?_ | refine Z5 ?_ | refine Zc (sline_ok y (hn4 y hym) q1 q2 q3 q4) ?_ | refine Yl (e := eStr) (l := J) [slineT y] ?_ | refine Ze ?_ | refine Zf ?_ | refine Zo ?_
      | refine ok_seq ?_ | refine ok_reg ?_ | refine Zp ?_ | refine ok_block ?_ | refine ok_skip ?_ | refine x_normal_then ?_ | refine x_normal_block ?_
    exact ⟨(k + 1, J ++ [slineT y]), ⟨hlt, j2⟩, by (try simp only); omega, lowR_mk [(11, 14)] rfl rfl rfl ⟨⟨rfl, rfl⟩, ⟨rfl, rfl⟩, ⟨rfl, rfl⟩, ⟨rfl, rfl⟩, ⟨rfl, rfl⟩, ⟨rfl, rfl⟩, ⟨rfl, rfl⟩, ⟨rfl, rfl⟩, ⟨rfl, rfl⟩, trivial⟩ ⟨⟨rfl, rfl⟩, ⟨renO_row rfl (by first | exact im2_ren _ _ _ | rfl), blt_lt rfl, im2_low _ _ _⟩, ⟨rfl, rfl⟩, trivial⟩⟩
  have ey : decide ((k : Int) < (c.body.length : Int)) = false := decide_eq_false (by omega)
  rw [List.drop_eq_nil_of_le (by omega)] at j2
  simp only [List.map_nil, List.nil_append] at j2
  rw [hR6] at j2
  have hJ := len_of j2 hll
  have j2 := psh j2
  rw [← hM] at j2
  repeat' first
    | refine Z1 ?_ | refine Z2 ?_ | refine Z3 ?_ | refine Z4 ?_ | refine Z5 ?_ | refine Yl (e := eStr) (l := J) [endS] ?_ | refine Zf ?_ | refine Zo ?_ | refine ok_seq ?_ | refine ok_reg ?_ | refine Zq ?_ | refine ok_exit ?_
    | refine x_normal_then ?_ | refine x_exit_here ?_ | refine Zv ?_ | refine x_normal_block ?_
  exact ⟨(p + 1, J ++ [endS]), ⟨hk, j2⟩, by (try simp only); omega, lowR_mk [(2, 13)] rfl rfl rfl ⟨⟨rfl, rfl⟩, ⟨rfl, rfl⟩, ⟨rfl, rfl⟩, ⟨rfl, rfl⟩, ⟨rfl, rfl⟩, trivial⟩ ⟨⟨rfl, rfl⟩, ⟨renO_row rfl (by first | exact im2_ren _ _ _ | rfl), blt_lt rfl, im2_low _ _ _⟩, trivial⟩⟩
end Go.Pm
/- What both write of a machine is one text. -/
set_option linter.unusedVariables false
set_option linter.unusedSimpArgs false
namespace Go.Pm
open Go.Proofs
theorem signGo_none {op : Int} : ∀ {L : List (ByteArray × Int)}, (∀ y ∈ L, y.2 ≠ op) → signGo op L = none
  | [], _ => rfl
  | y :: L, h => by
    simp only [signGo]
    rw [if_neg (h y (by simp)), signGo_none fun z hz => h z (by simp [hz])]
theorem ops_in (k : Int) : ∀ y ∈ opsT k, 4 ≤ y.2 ∧ y.2 ≤ 20 := by
  unfold opsT
  split
  · decide
  split
  · decide
  split
  · decide
  split
  · decide
  · decide
theorem signF_none {op : Int} (h : ¬ (4 ≤ op ∧ op ≤ 20)) : ∀ f k, signF op f k = B []
  | 0, _ => rfl
  | f + 1, k => by
    simp only [signF]
    rw [signGo_none fun y hy => fun e => h (by rw [← e]; exact ops_in _ y hy)]
    exact signF_none h f (k + 1)
theorem ct_in : ∀ y ∈ ctBytes, 4 ≤ y.1 ∧ y.1 ≤ 20 ∧ y.2.length ≤ 8 := by decide
theorem ctS_in : ∀ y ∈ ctS, 4 ≤ y.1 ∧ y.1 ≤ 20 ∧ y.2.size ≤ 8 := by
  intro y hy
  obtain ⟨z, hz, rfl⟩ := List.mem_map.1 hy
  obtain ⟨a, b, c⟩ := ct_in z hz
  exact ⟨a, b, c⟩
theorem ctFind_none {op : Int} (h : ¬ (4 ≤ op ∧ op ≤ 20)) : ctFind op = B [] := by
  unfold ctFind
  rw [List.find?_eq_none.2 fun y hy => by
    obtain ⟨a, b, _⟩ := ctS_in y hy
    simp only [decide_eq_true_eq]
    intro e
    exact h (by omega)]
  rfl
theorem ctFind_size (op : Int) : (ctFind op).size ≤ 8 := by
  unfold ctFind
  cases hf : ctS.find? fun y => decide (y.1 = op) with
  | none => exact Nat.zero_le _
  | some y => exact (ctS_in y (List.mem_of_find?_eq_some hf)).2.2
theorem part_eq (x : Itm) : spartT x = partI x := by
  unfold spartT partI
  split
  · rfl
  split
  · rfl
  split
  · rfl
  split
  · rfl
  by_cases h : 4 ≤ x.op ∧ x.op ≤ 20
  · generalize x.op = op at h
    have : op = 4 ∨ op = 5 ∨ op = 6 ∨ op = 7 ∨ op = 8 ∨ op = 9 ∨ op = 10 ∨ op = 11 ∨ op = 12 ∨ op = 13 ∨ op = 14 ∨ op = 15 ∨ op = 16 ∨ op = 17 ∨ op = 18 ∨ op = 19 ∨ op = 20 := by omega
    rcases this with rfl | rfl | rfl | rfl | rfl | rfl | rfl | rfl | rfl | rfl | rfl | rfl | rfl | rfl | rfl | rfl | rfl <;> decide
  · rw [if_neg (fun e => h (by omega)), if_neg (fun e => h (by omega)), if_neg (fun e => h (by omega)), signF_none h, ctFind_none h]
theorem code_tail : ∀ (l : List Itm) (i : Nat), joinT (B [32]) (i + 1) (l.map spartT) = codeT l
  | [], _ => rfl
  | x :: l, i => by
    simp only [List.map_cons, joinT, codeT]
    rw [if_pos (Nat.succ_pos i), code_tail l (i + 1), part_eq, ba_assoc]
theorem code_eq {l : List Itm} (h : l ≠ []) : B [32] ++ scodeT l = codeT l := by
  cases l with
  | nil => exact absurd rfl h
  | cons x l =>
    unfold scodeT
    simp only [List.map_cons, joinT, codeT]
    rw [if_neg (Nat.lt_irrefl 0), nil_ba, code_tail l 0, part_eq, ba_assoc]
theorem outs_tail : ∀ (l : List ByteArray) (i : Nat), joinT (B [32]) (i + 1) l = catT outT l
  | [], _ => rfl
  | x :: l, i => by
    simp only [joinT, catT, outT]
    rw [if_pos (Nat.succ_pos i), outs_tail l (i + 1), ba_assoc]
theorem soutsT_eq {l : List ByteArray} (h : l ≠ []) : B [32] ++ joinT (B [32]) 0 l = catT outT l := by
  cases l with
  | nil => exact absurd rfl h
  | cons x l =>
    simp only [joinT, catT, outT]
    rw [if_neg (Nat.lt_irrefl 0), nil_ba, outs_tail l 0, ba_assoc]
theorem comma : B [32, 44, 32] = B [32, 44] ++ B [32] := rfl
theorem args_tail : ∀ (l : List (List Itm)) (i : Nat), (∀ a ∈ l, a ≠ []) → joinT (B [32, 44, 32]) (i + 1) (l.map scodeT) = argsT (i + 1) l
  | [], _, _ => rfl
  | a :: l, i, h => by
    simp only [List.map_cons, joinT, argsT]
    rw [if_pos (Nat.succ_pos i), if_pos (Nat.succ_pos i), args_tail l (i + 1) fun b hb => h b (by simp [hb]), ← code_eq (h a (by simp)), comma]
    simp only [ba_assoc]
theorem args_eq {l : List (List Itm)} (hn : l ≠ []) (h : ∀ a ∈ l, a ≠ []) : B [32] ++ joinT (B [32, 44, 32]) 0 (l.map scodeT) = argsT 0 l := by
  cases l with
  | nil => exact absurd rfl hn
  | cons a l =>
    simp only [List.map_cons, joinT, argsT]
    rw [if_neg (Nat.lt_irrefl 0), if_neg (Nat.lt_irrefl 0), nil_ba, nil_ba, args_tail l 0 fun b hb => h b (by simp [hb]), ← code_eq (h a (by simp))]
    simp only [ba_assoc]
theorem colon : B [32, 58, 32] = B [32, 58] ++ B [32] := rfl
theorem line_eq {s : Sm} (hk : s.kind = 1 ∨ s.kind = 2 ∨ s.kind = 3 ∨ s.kind = 4 ∨ s.kind = 5 ∨ s.kind = 6) (hc : s.kind = 1 ∨ s.kind = 2 → s.code ≠ []) (ho : s.kind = 3 → s.outs ≠ [] ∧ ∀ a ∈ s.args, a ≠ []) : lnT (slineT s) = stmT s := by
  unfold lnT slineT stmT
  congr 1
  rcases hk with k | k | k | k | k | k <;> simp only [k, if_true, if_false, reduceCtorEq, show ¬ ((2 : Int) = 1) by decide, show ¬ ((3 : Int) = 1) by decide, show ¬ ((3 : Int) = 2) by decide, show ¬ ((3 : Int) = 4) by decide, show ¬ ((3 : Int) = 5) by decide, show ¬ ((3 : Int) = 6) by decide, show ¬ ((4 : Int) = 1) by decide, show ¬ ((4 : Int) = 2) by decide, show ¬ ((4 : Int) = 3) by decide, show ¬ ((5 : Int) = 1) by decide, show ¬ ((5 : Int) = 2) by decide, show ¬ ((5 : Int) = 3) by decide, show ¬ ((5 : Int) = 4) by decide, show ¬ ((6 : Int) = 1) by decide, show ¬ ((6 : Int) = 2) by decide, show ¬ ((6 : Int) = 3) by decide, show ¬ ((6 : Int) = 4) by decide, show ¬ ((6 : Int) = 5) by decide]
  · unfold sSetT setH
    rw [← code_eq (hc (.inl k)), colon]; simp only [ba_assoc]
  · unfold sSaveT saveH
    rw [← code_eq (hc (.inr k)), colon]; simp only [ba_assoc]
  · obtain ⟨h1, h2⟩ := ho k
    unfold sCallT callH
    rw [← soutsT_eq h1]
    by_cases ha : s.args = []
    · rw [if_pos ha, ha]
      simp only [argsT, ba_nil, ba_assoc]
    · rw [if_neg ha]
      unfold sArgsT
      rw [args_eq ha h2]
      simp only [ba_assoc]
  · rfl
theorem catT_app {α : Type} (f : α → ByteArray) : ∀ a b : List α, catT f (a ++ b) = catT f a ++ catT f b
  | [], b => by simp only [List.nil_append, catT, nil_ba]
  | x :: a, b => by simp only [List.cons_append, catT, catT_app f a b, ba_assoc]
theorem catT_map {α β : Type} (g : α → β) (f : β → ByteArray) (h : α → ByteArray) : ∀ l : List α, (∀ x ∈ l, f (g x) = h x) → catT f (l.map g) = catT h l
  | [], _ => rfl
  | x :: l, e => by simp only [List.map_cons, catT]; rw [e x (by simp), catT_map g f h l fun y hy => e y (by simp [hy])]
theorem slotsT_eq (w : ByteArray) : ∀ l : List Slt, slotsT w l = catT (slotT w) l
  | [] => rfl
  | x :: l => by simp only [slotsT, catT, slotsT_eq w l]
theorem cls_eq {cs : List Cls} {c : Cls} (h : ∀ s ∈ c.body, lnT (slineT s) = stmT s) : catT lnT (clsL cs c) = classT cs c := by
  unfold clsL classT
  simp only [catT, catT_app]
  rw [catT_map (slotS inS4) lnT (slotT inB) c.ins (fun x _ => ?_), catT_map (slotS outS4) lnT (slotT outB) c.outs (fun x _ => ?_), catT_map locS lnT locT c.locs (fun x _ => ?_), catT_map memS lnT memT c.mems (fun x _ => ?_), catT_map (useS cs) lnT (instT cs) c.insts (fun x _ => ?_), catT_map slineT lnT stmT c.body h]
  · have e1 : lnT (chS c) = headT c := rfl
    have e2 : lnT endS ++ B [] = endT := rfl
    rw [e1, e2, slotsT_eq, slotsT_eq]
  · rfl
  · rfl
  · rfl
  · unfold lnT slotS slotT outS4 outB
    have : B [111, 117, 116, 32] = B [111, 117, 116] ++ B [32] := rfl
    rw [this]
  · unfold lnT slotS slotT inS4 inB
    have : B [105, 110, 32] = B [105, 110] ++ B [32] := rfl
    rw [this]
theorem lines_eq {cs : List Cls} : ∀ l : List Cls, (∀ c ∈ l, ∀ s ∈ c.body, lnT (slineT s) = stmT s) → catT lnT (linesGo cs l) = catT (classT cs) l
  | [], _ => rfl
  | c :: l, h => by
    simp only [linesGo, catT, catT_app]
    rw [cls_eq (h c (by simp)), lines_eq l fun d hd => h d (by simp [hd])]
theorem catT_size {α : Type} {f : α → ByteArray} {w : α → Nat} {K : Nat} : ∀ {l : List α}, (∀ x ∈ l, (f x).size ≤ K * (1 + w x)) → (catT f l).size ≤ K * wL w l
  | [], _ => Nat.zero_le _
  | x :: l, h => by
    have ih := catT_size (l := l) fun y hy => h y (by simp [hy])
    have hx := h x (by simp)
    have e : wL w (x :: l) = (1 + w x) + wL w l := by simp only [wL, List.length_cons, List.map_cons, List.sum_cons]; omega
    simp only [catT, ByteArray.size_append]
    rw [e, Nat.mul_add]
    exact Nat.add_le_add hx ih
theorem part_size {x : Itm} (h : R64 x.val) : (partI x).size ≤ 22 + x.name.size := by
  have := itoaB_len x.val h.1 h.2
  have hc := ctFind_size x.op
  unfold partI
  split
  · omega
  split
  · unfold boolT
    split
    · exact Nat.le_trans (show (4 : Nat) ≤ 22 by decide) (Nat.le_add_right _ _)
    · exact Nat.le_trans (show (5 : Nat) ≤ 22 by decide) (Nat.le_add_right _ _)
  split
  · rw [ByteArray.size_append]
    have : (B [46]).size = 1 := rfl
    omega
  split
  · rw [ByteArray.size_append]
    have : (B [64]).size = 1 := rfl
    omega
  · omega
theorem code_size : ∀ {l : List Itm}, (∀ x ∈ l, R64 x.val) → (codeT l).size ≤ 23 * wL wItm l
  | [], _ => Nat.zero_le _
  | x :: l, h => by
    have ih := code_size (l := l) fun y hy => h y (by simp [hy])
    have hx := part_size (h x (by simp))
    have e : wL wItm (x :: l) = (1 + x.name.size) + wL wItm l := by simp only [wL, wItm, List.length_cons, List.map_cons, List.sum_cons]; omega
    simp only [codeT, ByteArray.size_append]
    have : (B [32]).size = 1 := rfl
    omega
theorem args_size : ∀ {l : List (List Itm)} (i : Nat), (∀ a ∈ l, ∀ x ∈ a, R64 x.val) → (argsT i l).size ≤ 23 * wL (wL wItm) l
  | [], _, _ => Nat.zero_le _
  | a :: l, i, h => by
    have ih := args_size (l := l) (i + 1) fun y hy => h y (by simp [hy])
    have hx := code_size (h a (by simp))
    have e : wL (wL wItm) (a :: l) = (1 + wL wItm a) + wL (wL wItm) l := by
      generalize hg : wL wItm = g
      simp only [wL, List.length_cons, List.map_cons, List.sum_cons]; omega
    simp only [argsT, ByteArray.size_append]
    have : (if 0 < i then B [32, 44] else B []).size ≤ 2 := by split <;> decide
    omega
theorem outs_size (l : List ByteArray) : (catT outT l).size ≤ 1 * wL wStr l := catT_size fun x _ => by
  unfold outT wStr
  rw [ByteArray.size_append]
  have : (B [32]).size = 1 := rfl
  omega
theorem stm_size {s : Sm} (hp : R64 s.pos) (hc : ∀ x ∈ s.code, R64 x.val) (ha : ∀ a ∈ s.args, ∀ x ∈ a, R64 x.val) : (stmT s).size ≤ 2097152 * (1 + wSm s) := by
  have h1 := itoaB_len s.pos hp.1 hp.2
  have h2 := code_size hc
  have h3 := args_size 0 ha
  have h4 := outs_size s.outs
  have b1 : (B [115, 101, 116, 32]).size = 4 := rfl
  have b2 : (B [32, 58]).size = 2 := rfl
  have b3 : (B [115, 97, 118, 101, 32]).size = 5 := rfl
  have b4 : (B [99, 97, 108, 108, 32]).size = 5 := rfl
  have b5 : (B [105, 102, 32]).size = 3 := rfl
  have b6 : (B [101, 108, 115, 101]).size = 4 := rfl
  have b7 : (B [101, 110, 100]).size = 3 := rfl
  have b8 : (B []).size = 0 := rfl
  have b9 : (B [10]).size = 1 := rfl
  unfold stmT setH saveH callH ifH
  unfold wSm
  rw [ByteArray.size_append]
  split
  · simp only [ByteArray.size_append]; omega
  split
  · simp only [ByteArray.size_append]; omega
  split
  · simp only [ByteArray.size_append]; omega
  split
  · simp only [ByteArray.size_append]; omega
  split
  · omega
  split <;> omega
theorem name_size {cs : List Cls} (hw : wL wCls cs ≤ 1048576) (g : Int) : (nameOf cs g).size ≤ 1048576 := by
  unfold nameOf
  cases h : cs[g.toNat]? with
  | none => exact Nat.zero_le _
  | some c =>
    have := wL_mem (w := wCls) (List.mem_of_getElem? h)
    have e : c.name.size ≤ wCls c := by simp only [wCls]; omega
    simp only [wL] at hw
    show c.name.size ≤ _
    omega
theorem cls_size {cs : List Cls} (hw : wL wCls cs ≤ 1048576) {c : Cls} (hm : ∀ v ∈ c.mems, R64 v) (hb : ∀ s ∈ c.body, R64 s.pos ∧ (∀ x ∈ s.code, R64 x.val) ∧ ∀ a ∈ s.args, ∀ x ∈ a, R64 x.val) : (classT cs c).size ≤ 2097152 * (1 + wCls c) := by
  have b1 : (B [99, 108, 97, 115, 115, 32]).size = 6 := rfl
  have b2 : (B [32]).size = 1 := rfl
  have b3 : (B [10]).size = 1 := rfl
  have b4 : (B [108, 111, 99, 32]).size = 4 := rfl
  have b5 : (B [109, 101, 109, 32]).size = 4 := rfl
  have b6 : (B [117, 115, 101, 32]).size = 4 := rfl
  have b7 : endT.size = 9 := rfl
  have b8 : inB.size = 2 := rfl
  have b9 : outB.size = 3 := rfl
  have ty : ∀ n, (tyT n).size ≤ 4 := fun n => by unfold tyT; split <;> decide
  have h1 : (catT (slotT inB) c.ins).size ≤ 2097152 * wL wSlt c.ins := catT_size fun x _ => by
    have := ty x.type
    unfold slotT wSlt; simp only [ByteArray.size_append]; omega
  have h2 : (catT (slotT outB) c.outs).size ≤ 2097152 * wL wSlt c.outs := catT_size fun x _ => by
    have := ty x.type
    unfold slotT wSlt; simp only [ByteArray.size_append]; omega
  have h3 : (catT locT c.locs).size ≤ 2097152 * wL wStr c.locs := catT_size fun x _ => by
    unfold locT wStr; simp only [ByteArray.size_append]; omega
  have h4 : (catT memT c.mems).size ≤ 2097152 * wL wNum0 c.mems := catT_size fun x hx => by
    have := itoaB_len x (hm x hx).1 (hm x hx).2
    unfold memT wNum0; simp only [ByteArray.size_append]; omega
  have h5 : (catT (instT cs) c.insts).size ≤ 2097152 * wL wNum0 c.insts := catT_size fun x _ => by
    have := name_size hw x
    unfold instT wNum0; simp only [ByteArray.size_append]; omega
  have h6 : (catT stmT c.body).size ≤ 2097152 * wL wSm c.body := catT_size fun s hs => stm_size (hb s hs).1 (hb s hs).2.1 (hb s hs).2.2
  unfold classT headT
  rw [slotsT_eq, slotsT_eq]
  simp only [ByteArray.size_append]
  simp only [wCls]
  omega
theorem mach_size {cs : List Cls} (hw : wL wCls cs ≤ 1048576) (hp : okP cs) : (machT cs).size ≤ 140737488355328 := by
  have : (machT cs).size ≤ 2097152 * wL wCls cs := catT_size fun c hc => by
    obtain ⟨k, hk⟩ := List.getElem?_of_mem hc
    obtain ⟨_, h2, h3⟩ := hp k c hk
    exact cls_size hw h2 h3
  omega
end Go.Pm
/- Machines that are in order are printed in full; the law. -/
set_option linter.unusedVariables false
set_option linter.unusedSimpArgs false
namespace Go.Pm
open Go.Proofs
theorem itm_ok {c : Cls} {l : List Itm} (hm : c.mems.length ≤ 1000) (hw : wL wItm l ≤ 1048576) (h : mcodeS c l = true) : l ≠ [] ∧ ∀ x ∈ l, okI x := by
  unfold mcodeS at h
  rw [Bool.and_eq_true] at h
  obtain ⟨h1, h2⟩ := h
  unfold codeS at h1
  split at h1
  · cases h1
  rename_i hb
  refine ⟨fun e => hb (.inl (by rw [e]; decide)), fun x hx => ?_⟩
  have a1 := List.all_eq_true.1 h1 x hx
  have a2 := List.all_eq_true.1 h2 x hx
  have hsz : x.name.size ≤ 1048576 := by
    have := wL_mem (w := wItm) hx
    have e : wItm x = x.name.size := rfl
    simp only [wL] at hw
    omega
  refine ⟨?_, hsz⟩
  unfold itmS at a2
  split at a2
  · cases a2
  rename_i ha
  unfold R63
  unfold itemS at a1
  split at a1
  · cases a1
  split at a1
  · simp only [Bool.and_eq_true, decide_eq_true_eq] at a1; omega
  split at a1
  · simp only [Bool.and_eq_true, decide_eq_true_eq] at a1; omega
  split at a1
  · simp only [Bool.and_eq_true, decide_eq_true_eq] at a1; omega
  split at a1
  · rename_i h25
    have : ¬ (x.val < 0 ∨ (c.mems.length : Int) ≤ x.val) := fun e => ha (.inr (.inr ⟨h25, e⟩))
    omega
  · simp only [Bool.and_eq_true, decide_eq_true_eq] at a1; omega
theorem fit_ok {v : Int} (h : fitS v = true) : R63 v := by
  unfold fitS at h
  have e := of_decide_eq_true h
  have h32 : -2147483648 ≤ IntKind.i32.wrap v ∧ IntKind.i32.wrap v ≤ 2147483647 := by
    simp [IntKind.wrap, IntKind.bits, IntKind.signed]
    split <;> omega
  unfold wrapS at e
  rw [wrap_id (by omega) (by omega)] at e
  unfold R63
  omega
theorem r63_64 {v : Int} (h : R63 v) : R64 v := ⟨by have := h.1; omega, h.2⟩
/-- Of a class that is in order. -/
theorem cls_in {cs : List Cls} {k : Nat} {c : Cls} (h : classS cs k c = true) : 1 ≤ c.outs.length ∧ c.mems.length ≤ 1000 ∧ c.insts.length ≤ 1000 ∧ (∀ v ∈ c.mems, R63 v) ∧ (∀ g ∈ c.insts, 0 ≤ g ∧ g < (k : Int)) ∧ ∀ s ∈ c.body, stmS cs c s = true := by
  unfold classS at h
  split at h
  · cases h
  rename_i h1
  split at h
  · cases h
  split at h
  · cases h
  split at h
  · cases h
  split at h
  · cases h
  split at h
  · cases h
  rename_i h6
  split at h
  · cases h
  rename_i h7
  split at h
  · cases h
  rename_i h8
  unfold headS at h1
  simp only [Bool.or_eq_true, decide_eq_true_eq, not_or] at h1
  obtain ⟨⟨⟨⟨_, a⟩, b⟩, d⟩, _⟩ := h1
  have g6 : c.mems.all fitS = true := by cases hq : c.mems.all fitS <;> simp_all
  have g7 : c.insts.all (insS k) = true := by cases hq : c.insts.all (insS k) <;> simp_all
  have g8 : c.body.all (stmS cs c) = true := by cases hq : c.body.all (stmS cs c) <;> simp_all
  refine ⟨by omega, by omega, by omega, fun v hv => fit_ok (List.all_eq_true.1 g6 v hv), fun g hg => ?_, fun s hs => List.all_eq_true.1 g8 s hs⟩
  have := List.all_eq_true.1 g7 g hg
  unfold insS at this
  simp only [Bool.and_eq_true, decide_eq_true_eq] at this
  exact this
theorem stm_in {cs : List Cls} {c : Cls} {s : Sm} (hco : ∀ (j : Nat) (d : Cls), cs[j]? = some d → 1 ≤ d.outs.length) (hm : c.mems.length ≤ 1000) (hi : c.insts.length ≤ 1000) (hw : wSm s ≤ 1048576) (h : stmS cs c s = true) :
    R63 s.pos ∧ (∀ x ∈ s.code, okI x) ∧ (∀ a ∈ s.args, ∀ x ∈ a, okI x) ∧ lnT (slineT s) = stmT s := by
  unfold stmS at h
  by_cases q1 : c1 s = true
  · rw [if_pos q1] at h; cases h
  rw [if_neg q1] at h
  by_cases q2 : c2 s = true
  · rw [if_pos q2] at h; cases h
  rw [if_neg q2] at h
  by_cases q3 : c3 s = true
  · rw [if_pos q3] at h; cases h
  rw [if_neg q3] at h
  by_cases q4 : c4 s = true
  · rw [if_pos q4] at h; cases h
  rw [if_neg q4] at h
  unfold c2 at q2
  unfold c3 at q3
  unfold c4 at q4
  simp only [Bool.and_eq_true, Bool.or_eq_true, decide_eq_true_eq, not_and, not_or, Classical.not_not] at q2 q3 q4
  have hwc : wL wItm s.code ≤ 1048576 := by simp only [wSm] at hw; omega
  have no_code : s.kind ≠ 1 → s.kind ≠ 2 → ∀ x ∈ s.code, okI x := fun a b x hx => by
    have := q4 ⟨a, b⟩
    have : s.code = [] := List.eq_nil_of_length_eq_zero (by omega)
    rw [this] at hx; simp at hx
  have no_args : s.kind ≠ 3 → ∀ a ∈ s.args, ∀ x ∈ a, okI x := fun a y hy => by
    have := (q3 a).2
    have : s.args = [] := List.eq_nil_of_length_eq_zero (by omega)
    rw [this] at hy; simp at hy
  by_cases k : s.kind = 1
  · rw [if_pos k] at h
    rw [Bool.and_eq_true] at h
    obtain ⟨h1, h2⟩ := itm_ok hm hwc h.2
    have hp := q2 ⟨by omega, by omega⟩
    exact ⟨⟨by omega, by omega⟩, h2, no_args (by omega), line_eq (.inl k) (fun _ => h1) (fun e => by omega)⟩
  rw [if_neg k] at h
  have n1 := k
  clear k
  by_cases k : s.kind = 2
  · rw [if_pos k] at h
    simp only [Bool.and_eq_true, decide_eq_true_eq] at h
    obtain ⟨⟨p0, p1⟩, h⟩ := h
    obtain ⟨h1, h2⟩ := itm_ok hm hwc h
    exact ⟨⟨by omega, by omega⟩, h2, no_args (by omega), line_eq (.inr (.inl k)) (fun _ => h1) (fun e => by omega)⟩
  rw [if_neg k] at h
  have n2 := k
  clear k
  by_cases k : s.kind = 4
  · rw [if_pos k] at h
    have hp := q2 ⟨by omega, by omega⟩
    exact ⟨⟨by omega, by omega⟩, no_code n1 n2, no_args (by omega), line_eq (by omega) (fun e => by omega) (fun e => by omega)⟩
  rw [if_neg k] at h
  have n4 := k
  clear k
  by_cases k : s.kind = 5 ∨ s.kind = 6
  · rw [if_pos k] at h
    have hp := q2 ⟨by omega, by omega⟩
    exact ⟨⟨by omega, by omega⟩, no_code n1 n2, no_args (by omega), line_eq (by omega) (fun e => by omega) (fun e => by omega)⟩
  rw [if_neg k] at h
  have n5 := k
  clear k
  by_cases k : s.kind = 3
  · rw [if_pos k] at h
    by_cases hp : s.pos < 0 ∨ (c.insts.length : Int) ≤ s.pos
    · rw [if_pos hp] at h; cases h
    rw [if_neg hp] at h
    cases hd : (c.insts[s.pos.toNat]?).bind (fun g => cs[g.toNat]?) with
    | none => rw [hd] at h; cases h
    | some d =>
      rw [hd] at h
      dsimp only at h
      by_cases hl : s.outs.length = d.outs.length ∧ s.args.length = d.ins.length
      · rw [if_pos hl] at h
        rw [Bool.and_eq_true] at h
        have hco2 : 1 ≤ d.outs.length := by
          cases hg : c.insts[s.pos.toNat]? with
          | none => rw [hg] at hd; cases hd
          | some g => rw [hg] at hd; exact hco _ d hd
        have ha : ∀ a ∈ s.args, a ≠ [] ∧ ∀ x ∈ a, okI x := fun a ha2 => by
          have hm2 := List.all_eq_true.1 h.2 a ha2
          have hwa : wL wItm a ≤ 1048576 := by
            have := wL_mem (w := wL wItm) ha2
            have e : wL (wL wItm) s.args = s.args.length + (s.args.map (wL wItm)).sum := rfl
            simp only [wSm] at hw
            omega
          exact itm_ok hm hwa hm2
        refine ⟨⟨by omega, by omega⟩, no_code n1 n2, fun a ha2 => (ha a ha2).2, line_eq (by omega) (fun e => by omega) (fun _ => ⟨fun e => ?_, fun a ha2 => (ha a ha2).1⟩)⟩
        rw [e] at hl
        simp only [List.length_nil] at hl
        omega
      · rw [if_neg hl] at h; cases h
  · rw [if_neg k] at h; cases h
theorem mok_print {cs : List Cls} (hw : wL wCls cs ≤ 1048576) (h : mokS cs = true) : 0 < cs.length ∧ okP cs ∧ okQ cs ∧ textS cs = machT cs ∧ (machT cs).size ≤ 140737488355328 := by
  unfold mokS at h
  split at h
  · cases h
  rename_i h1
  split at h
  · cases h
  rename_i h2
  have h2 : (List.range cs.length).all (classAt cs) = true := by cases hq : (List.range cs.length).all (classAt cs) <;> simp_all
  have hc := (at_iff cs).1 h2
  have hco : ∀ (j : Nat) (d : Cls), cs[j]? = some d → 1 ≤ d.outs.length := fun j d hj => (cls_in (hc j d hj)).1
  have hst : ∀ (k : Nat) (c : Cls), cs[k]? = some c → ∀ s ∈ c.body, R63 s.pos ∧ (∀ x ∈ s.code, okI x) ∧ (∀ a ∈ s.args, ∀ x ∈ a, okI x) ∧ lnT (slineT s) = stmT s := fun k c hk s hs => by
    obtain ⟨_, a, b, _, _, d⟩ := cls_in (hc k c hk)
    have hwc : wCls c ≤ 1048576 := by have := wL_mem (w := wCls) (List.mem_of_getElem? hk); simp only [wL] at hw; omega
    have hws : wSm s ≤ 1048576 := by
      have := wL_mem (w := wSm) hs
      have e : wL wSm c.body = c.body.length + (c.body.map wSm).sum := rfl
      simp only [wCls] at hwc
      omega
    exact stm_in hco a b hws (d s hs)
  have hP : okP cs := fun k c hk => by
    obtain ⟨_, _, _, v, g, _⟩ := cls_in (hc k c hk)
    exact ⟨g, fun x hx => r63_64 (v x hx), fun s hs => by
      obtain ⟨a, b, d, _⟩ := hst k c hk s hs
      exact ⟨r63_64 a, fun x hx => r63_64 (b x hx).1, fun y hy x hx => r63_64 (d y hy x hx).1⟩⟩
  have hz := mach_size hw hP
  have ht : textS cs = machT cs := lines_eq cs fun c hc2 s hs => by
    obtain ⟨k, hk⟩ := List.getElem?_of_mem hc2
    exact (hst k c hk s hs).2.2.2
  refine ⟨by omega, hP, fun k c hk => ?_, ht, hz⟩
  obtain ⟨_, _, _, v, g, _⟩ := cls_in (hc k c hk)
  refine ⟨g, v, fun s hs => ?_⟩
  obtain ⟨a, b, d, e⟩ := hst k c hk s hs
  refine ⟨a, b, d, ?_⟩
  have hwc : wCls c ≤ 1048576 := by have := wL_mem (w := wCls) (List.mem_of_getElem? hk); simp only [wL] at hw; omega
  have hws : wSm s ≤ 1048576 := by
    have := wL_mem (w := wSm) hs
    have e : wL wSm c.body = c.body.length + (c.body.map wSm).sum := rfl
    simp only [wCls] at hwc
    omega
  have hs2 := stm_size (r63_64 a) (fun x hx => r63_64 (b x hx).1) (fun y hy x hx => r63_64 (d y hy x hx).1)
  rw [← e] at hs2
  unfold lnT at hs2
  rw [ByteArray.size_append] at hs2
  omega
attribute [local irreducible] AR Ok inBlock andThen endQ aoper
theorem ipm_ok (cs : List Cls) (hw : wL wCls cs ≤ 1048576) : PFun X 7 [.agg [.d (.im (cs.map eCls))]] (vs (if mokS cs then machT cs else B [])) := by
  have hm := mok_ok cs hw
  have h1 : (!true) = false := rfl
  have h2 : (!false) = true := rfl
  refine pfun_of Tryz.func7 rfl (by decide) Tryz.ntmps7 Tryz.results7 (by simp) rfl rfl ?_
  cases h : mokS cs with
  | false =>
    rw [h] at hm
    repeat' first
      | refine Z1 ?_ | refine Z2 ?_ | refine Z5 ?_ | refine Zc (hm) ?_ | refine Zo ?_ | refine ok_seq ?_ | refine Zp ?_ | refine ok_ret ?_ | refine x_ret_then ?_ | refine Zt ?_
    rfl
  | true =>
    rw [h] at hm
    obtain ⟨a, b, _, _, d⟩ := mok_print hw h
    repeat' first
      | refine Z1 ?_ | refine Z2 ?_ | refine Z5 ?_ | refine Zc (hm) ?_ | refine Zc (pm_s cs hw a b d) ?_ | refine Zo ?_ | refine ok_seq ?_ | refine Zq ?_ | refine ok_skip ?_ | refine ok_ret ?_ | refine x_normal_then ?_
      | refine Zt ?_
    rfl
theorem law_print (cs : List Cls) (hd : dL dCls cs) : PFun X 3 [.agg [.d (.im (cs.map eCls))]] (vb true) := by
  have ht : (!true) = false := rfl
  refine pfun_of Tryz.func3 rfl (by decide) Tryz.ntmps3 Tryz.results3 (by simp) rfl rfl ?_
  by_cases hn : subI 1048576 (wL wCls cs) < 0
  · have e1 : decide (subI 1048576 (wL wCls cs) < 0) = true := decide_eq_true hn
    repeat' first
      | refine Z1 ?_ | refine Z2 ?_ | refine Z5 ?_ | refine Zc (szMachine_ok cs 1048576 (by omega) (by omega) hd) ?_ | refine Zo ?_ | refine ok_seq ?_ | refine Zp ?_ | refine ok_ret ?_ | refine x_ret_then ?_ | refine Zt ?_
    rfl
  · have e1 : decide (subI 1048576 (wL wCls cs) < 0) = false := decide_eq_false hn
    obtain ⟨h1, h2⟩ := subI_pos hn (by omega)
    have hw : wL wCls cs ≤ 1048576 := by omega
    have hs : PFun X 5 [.agg [.d (.im (cs.map eCls))]] (vs (if mokS cs then machT cs else B [])) := by
      have := spm_ok cs hw fun h => by
        obtain ⟨_, _, q, e, d⟩ := mok_print hw h
        exact ⟨q, e ▸ d⟩
      cases h : mokS cs with
      | false => rw [h] at this; exact this
      | true =>
        rw [h] at this
        obtain ⟨_, _, _, e, _⟩ := mok_print hw h
        rw [if_pos rfl, e] at this
        exact this
    have hi := ipm_ok cs hw
    generalize (if mokS cs then machT cs else B []) = tx at hs hi
    have e2 : decide (tx ≠ tx) = false := decide_eq_false (fun h => h rfl)
    repeat' first
      | refine Z1 ?_ | refine Z2 ?_ | refine Z5 ?_ | refine Zc (szMachine_ok cs 1048576 (by omega) (by omega) hd) ?_ | refine Zc (toMachine_ok cs hw) ?_ | refine Zc (hs) ?_ | refine Zc (hi) ?_ | refine Zw ?_ | refine Zx ?_
      | refine Zz (Zc (toMachine_ok cs hw) ⟨rfl, rfl⟩) ?_ | refine Zz (Zc (eqMachine_ok cs hw) ⟨rfl, rfl⟩) ?_ | refine Zo ?_ | refine ok_seq ?_ | refine ok_draw X_mixed (by decide +kernel) ?_ | refine Zq ?_ | refine ok_skip ?_
      | refine ok_ret ?_ | refine x_normal_then ?_ | refine Zt ?_
    rfl
end Go.Pm
