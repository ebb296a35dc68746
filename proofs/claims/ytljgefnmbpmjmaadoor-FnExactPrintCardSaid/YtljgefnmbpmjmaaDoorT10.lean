/- The program's tree of a code. -/
import Derived.Test.YtljgefnmbpmjmaaDoorT9
import Derived.Test.YtljgefnmbpmjmaaDoorT8
import Derived.Shelf.Strconv.Itoa3
import Derived.Shelf.Strings.Builder1
import Derived.Room.Shelf.Join48
import Derived.Test.YtljgefnmbpmjmaaDoorT5
set_option linter.unusedVariables false
set_option linter.unusedSimpArgs false
namespace Go.Pm
attribute [local irreducible] AR Ok inBlock andThen endQ aoper
set_option maxHeartbeats 2000000
open Go.Proofs
theorem tree_ok (l : List Itm) (t : Tm) (hl : l.length ≤ 1048576) (hp : postI 0 l = true) (hr : runT 0 [] l = [t]) : PFun X 22 [.d (.im (l.map eItm))] (.d (.ip (eTm t) 0)) := by
  refine pfun_of Tryd.func22 rfl (by decide) Tryd.ntmps22 Tryd.results22 (by simp) rfl rfl ?_
  repeat' first
    | refine Z1 ?_ | refine Z2 ?_ | refine Z3 ?_ | refine Z4 ?_ | refine Z5 ?_ | refine Z6 ?_ | refine Z7 ?_ | refine Z8 ?_ | refine Z9 ?_ | refine Za (fun hc => ?_) (fun hc => ?_) | refine Zb (fun hc => ?_) (fun hc => ?_) | refine Zd ?_
    | refine Ze ?_ | refine Zf ?_ | refine Zg ?_ | refine Zh ?_ | refine Zi ?_ | refine Zj ?_ | refine Zk ?_ | refine Zl ?_ | refine Zm ?_ | refine Zn (fun hc => ?_) (fun hc => ?_) | refine Zo ?_ | refine ok_seq ?_ | refine ok_reg ?_
    | refine Zp ?_ | refine Zq ?_ | refine Zr (fun hc => ?_) (fun hc => ?_) | refine ok_block ?_ | refine ok_exit ?_ | refine ok_skip ?_ | refine ok_ret ?_ | refine x_normal_then ?_ | refine x_exit_here ?_ | refine Zs ?_ | refine Zv ?_
    | refine x_ret_then ?_ | refine x_ret_block ?_ | refine x_normal_block ?_ | refine Zt ?_ | refine Zu ?_
  refine ok_turn (turn_ownt 3 64 1 rfl) ?_
  refine ok_forR (ι := Nat × List Tm) (fun x_ => envL [(3, .sl 0 1 0 x_.2.length), (8, .d (.im (l.map eItm))), (9, vi l.length), (10, vi x_.1)]) (fun x_ => stL [some (.row 1 64 1 (im2 eTp x_.2)), none]) (fun x_ => x_.1 ≤ l.length ∧ x_.2.length ≤ x_.1 ∧ postI x_.2.length (l.drop x_.1) = true ∧ runT x_.1 x_.2 (l.drop x_.1) = [t]) (fun x_ => l.length - x_.1) (0, []) (⟨Nat.zero_le _, Nat.le_refl _, hp, hr⟩) Turn.refl (lowR_mk [(1, 0)] rfl rfl rfl ⟨⟨rfl, rfl⟩, ⟨rfl, rfl⟩, ⟨rfl, rfl⟩, ⟨rfl, rfl⟩, trivial⟩ ⟨⟨renO_row rfl (by first | exact im2_ren _ _ _ | rfl), blt_lt rfl, im2_low _ _ _⟩, trivial⟩) ?_
  rintro ⟨k, J⟩ ⟨i1, i2, i3, i4⟩
  simp only at i1 i2 i3 i4
  rcases hx : l[k]? with _ | x
  · have hle := none_le hx
    have ek : decide ((k : Int) < (l.length : Int)) = false := decide_eq_false (by omega)
    rw [drop_none hx] at i4
    simp only [runT] at i4
    subst i4
    have hr0 : (im2 eTp [t])[0]? = some [.d (.ip (eTm t) 0)] := rfl
    repeat' first
      | refine Z1 ?_ | refine Z2 ?_ | refine Z3 ?_ | refine Z4 ?_ | refine Z5 ?_ | refine Z6 ?_ | refine Z7 ?_ | refine Z8 ?_ | refine Z9 ?_ | refine Za (fun hc => ?_) (fun hc => ?_) | refine Zb (fun hc => ?_) (fun hc => ?_)
      | refine Yf (hi := 1) (n := 0) 0 rfl (Nat.succ_pos 0) ?_ | refine Ye hr0 ?_ | refine Zd ?_ | refine Ze ?_ | refine Zf ?_ | refine Zg ?_ | refine Zh ?_ | refine Zi ?_ | refine Zj ?_ | refine Zk ?_ | refine Zl ?_ | refine Zm ?_
      | refine Zn (fun hc => ?_) (fun hc => ?_) | refine Zo ?_ | refine ok_seq ?_ | refine ok_reg ?_ | refine Zp ?_ | refine Zq ?_ | refine Zr (fun hc => ?_) (fun hc => ?_) | refine ok_block ?_ | refine ok_exit ?_ | refine ok_skip ?_
      | refine ok_ret ?_ | refine x_normal_then ?_ | refine x_exit_here ?_ | refine Zs ?_ | refine Zv ?_ | refine x_ret_then ?_ | refine x_ret_block ?_ | refine x_normal_block ?_ | refine Zt ?_ | refine Zu ?_
    rfl
  obtain ⟨hd, hlt⟩ := drop_some hx
  have ek : decide ((k : Int) < (l.length : Int)) = true := decide_eq_true (by omega)
  rw [hd] at i3 i4
  simp only [postI] at i3
  simp only [runT] at i4
  have har := arityI_range x.op
  obtain ⟨n, hn⟩ : ∃ n : Nat, arityI x.op = (n : Int) := ⟨(arityI x.op).toNat, by omega⟩
  have hao := arity_ok x.op
  rw [hn] at i3 i4 hao
  rw [Int.toNat_natCast] at i4
  by_cases hlo : (J.length : Int) < n
  · rw [if_pos hlo] at i3; cases i3
  rw [if_neg hlo] at i3
  repeat' first
    | refine Z1 ?_ | refine Z2 ?_ | refine Z3 ?_ | refine Z4 ?_ | refine Z5 ?_ | refine Z6 ?_ | refine Z7 ?_ | refine Z8 ?_ | refine Z9 ?_ | refine Za (fun hc => ?_) (fun hc => ?_) | refine Zb (fun hc => ?_) (fun hc => ?_)
    | refine Zc (hao) ?_ | refine Zd ?_ | refine Ze ?_ | refine Zf ?_ | refine Zg ?_ | refine Zh ?_ | refine Zi ?_ | refine Zj ?_ | refine Zk ?_ | refine Zl ?_ | refine Zm ?_ | refine Zn (fun hc => ?_) (fun hc => ?_) | refine Zo ?_
    | refine ok_seq ?_ | refine ok_reg ?_ | refine Zp ?_ | refine Zq ?_ | refine Zr (fun hc => ?_) (fun hc => ?_) | refine ok_block ?_ | refine ok_exit ?_ | refine ok_skip ?_ | refine ok_ret ?_ | refine x_normal_then ?_
    | refine x_exit_here ?_ | refine Zs ?_ | refine Zv ?_ | refine x_ret_then ?_ | refine x_ret_block ?_ | refine x_normal_block ?_ | refine Zt ?_ | refine Zu ?_
  obtain ⟨m, hm⟩ : ∃ m : Nat, J.length = m + n := ⟨J.length - n, by omega⟩
  have hmn : J.length - n = m := by omega
  rw [hmn] at i4
  have hdl : (J.drop m).length = n := by rw [List.length_drop]; omega
  have hw : (J.length : Int) - (n : Int) = (m : Int) := by omega
  have hdt : (J.drop m).take (J.length - m) = J.drop m := List.take_of_length_le (by rw [List.length_drop]; omega)
  refine ok_drawE (fun j => j = 0 ∨ j = 3) [11, 14] X_mixed (by decide +kernel) ?_
  repeat' first | refine Wl (i := 3) rfl (.inr rfl) ?_ | refine Wa ?_ | refine Wn ?_
  refine Wq (fun σ' _ => Zg (m := (J.length : Int)) (n := (n : Int)) ⟨rfl, rfl⟩) ?_
  refine Wq (fun σ' hσ => Uq (m := J.length) m ((hσ 0 (.inl rfl)).trans rfl) hw (by omega) ⟨rfl, rfl⟩) ?_
  refine We (Us (e := eTp) (l := J) (n := 4) (J.drop m) hdt rfl (Nat.le_refl _) (fun _ => rfl) (by omega) ⟨rfl, rfl⟩) (.inr (fun j hj => by rw [St.obj_alloc, if_neg (by show ¬ j = 4; omega)])) ?_
  repeat' first | refine Wa ?_ | refine Wn ?_
  refine We (Yt (i := 3) (m := [vi x.op, vi x.val, vs x.name, .sl 4 4 0 (J.drop m).length, vi k]) rfl ⟨rfl, rfl⟩) (.inl rfl) ?_
  refine Wx ?_
  obtain ⟨T, hT⟩ : ∃ T : Tm, T = .mk x k (J.drop m) := ⟨_, rfl⟩
  rw [← hT] at i4
  have hlen : m + 1 = (J.take m ++ [T]).length := by rw [List.length_append, List.length_take]; simp; omega
  have hmJ : m ≤ (im2 eTp J).length := by rw [im2_length eTp J]; omega
  refine ok_reg ?_
  repeat' first | refine Z1 ?_ | refine Z2 ?_ | refine Z3 ?_ | refine Z4 ?_ | refine Z5 ?_ | refine Z6 ?_ | refine Z7 ?_ | refine Z8 ?_ | refine Z9 ?_ | refine Zg (m := (J.length : Int)) (n := (n : Int)) ?_ | refine Yz (hi := J.length) m rfl hw (by omega) ?_ | refine Yw (sz := 1) (rows := [[.ref 3 0]]) (n := 5) ?_ | refine Ut (hi := m) (k := 5) (w := 5) (m := 1) (z := (J.take m ++ [T]).length) rfl rfl hmJ rfl (fun r hr => by simp at hr; subst hr; rfl) (by show m + 1 ≤ 2097153; omega) hlen ?_ | refine Zd ?_ | refine Ze ?_ | refine Zf ?_ | refine Zg ?_ | refine Zh ?_ | refine Zi ?_ | refine Zj ?_ | refine Zk ?_ | refine Zl ?_ | refine Zm ?_
  refine x_normal_block ?_
  refine x_normal_then ?_
  have hz : ∀ {τ : St}, τ.obj 3 = some (.var [vi x.op, vi x.val, vs x.name, .sl 4 4 0 (J.drop m).length, vi k]) → τ.obj 4 = some (.row 4 64 1 (im2 eTp (J.drop m))) → Kz τ (.ref 3 0) (.d (.ip (eTm T) 0)) := fun {τ} h3 h4 => by
    rw [hT, eTm_mk]
    refine .fz (.data (.ref h3 rfl fun j q1 q2 => ?_))
    match j, q1 with
    | 0, _ => exact .d _
    | 1, _ => exact .d _
    | 2, _ => exact .d _
    | 3, _ => exact fz_im2 h4 rfl
    | 4, _ => exact .d _
  have hrow : im2 eTp (J.take m ++ [T]) = (im2 eTp J).take m ++ [[.d (.ip (eTm T) 0)]] := by simp [im2, eTp, List.map_take]
  refine ok_turn (turn_sel (σ' := stL [some (.row 6 64 1 (im2 eTp (J.take m ++ [T]))), none, none, none, none, none, none]) (fun j => j == 3 || j == 4) rfl (fun j o' h => ?_) fun _ => .same _) ?_
  · match j, h with
    | 0, h =>
      obtain rfl := Option.some.inj h
      refine ⟨rfl, _, rfl, ?_⟩
      rw [hrow]
      exact okz_snoc (hz rfl rfl)
    | 1, h => cases h
    | 2, h => cases h
    | 3, h => cases h
    | 4, h => cases h
    | 5, h => cases h
    | 6, h => cases h
    | j + 7, h => simp [stL] at h
  repeat' first
    | refine Z1 ?_ | refine Z2 ?_ | refine Z3 ?_ | refine Z4 ?_ | refine Z5 ?_ | refine Z6 ?_ | refine Z7 ?_ | refine Z8 ?_ | refine Z9 ?_ | refine Za (fun hc => ?_) (fun hc => ?_) | refine Zb (fun hc => ?_) (fun hc => ?_) | refine Zd ?_
    | refine Ze ?_ | refine Zf ?_ | refine Zg ?_ | refine Zh ?_ | refine Zi ?_ | refine Zj ?_ | refine Zk ?_ | refine Zl ?_ | refine Zm ?_ | refine Zn (fun hc => ?_) (fun hc => ?_) | refine Zo ?_ | refine ok_seq ?_ | refine ok_reg ?_
    | refine Zp ?_ | refine Zq ?_ | refine Zr (fun hc => ?_) (fun hc => ?_) | refine ok_block ?_ | refine ok_exit ?_ | refine ok_skip ?_ | refine ok_ret ?_ | refine x_normal_then ?_ | refine x_exit_here ?_ | refine Zs ?_ | refine Zv ?_
    | refine x_ret_then ?_ | refine x_ret_block ?_ | refine x_normal_block ?_ | refine Zt ?_ | refine Zu ?_
  exact ⟨(k + 1, J.take m ++ [T]), ⟨hlt, by simp only [List.length_append, List.length_take, List.length_singleton]; omega, by rw [← hlen]; rw [show (((m + 1 : Nat)) : Int) = (J.length : Int) + (1 - (n : Int)) by omega]; exact i3, i4⟩, by (try simp only); omega, lowR_mk [(1, 6)] rfl rfl rfl ⟨⟨rfl, rfl⟩, ⟨rfl, rfl⟩, ⟨rfl, rfl⟩, ⟨rfl, rfl⟩, trivial⟩ ⟨⟨renO_row rfl (by first | exact im2_ren _ _ _ | rfl), blt_lt rfl, im2_low _ _ _⟩, trivial⟩⟩
end Go.Pm
/- Library functions of this seat: their closures, for the kit's contracts; strconv.Itoa, strings.Join. -/
set_option linter.unusedVariables false
namespace Go.Pm
open Go.Proofs Go.Shelf
def rhoF : List (Nat × Nat) := [(129, 125), (156, 21), (165, 49), (166, 20), (169, 24), (171, 51), (240, 48), (241, 80), (243, 81), (246, 100), (276, 79), (277, 99), (283, 112), (284, 113), (285, 114), (286, 115), (317, 124), (318, 126), (319, 127), (320, 128), (337, 131), (338, 132)]
def rhoT : List (Nat × Nat) := [(0, 0), (2, 2), (3, 3), (4, 4), (5, 5), (9, 9), (20, 20), (31, 42), (37, 51), (46, 189), (51, 187), (53, 171), (70, 50), (72, 53), (75, 58), (76, 59), (80, 67), (127, 110), (164, 133), (171, 170), (173, 174), (212, 186), (213, 188), (232, 194), (233, 195)]
def rhoG : List (Nat × Nat) := [(17, 3), (18, 4), (19, 5)]
def rhoA (l : List (Nat × Nat)) (n : Nat) : Nat := match l.find? (fun y => y.1 == n) with | some y => y.2 | none => 0
def rho : Shelf.Ren := ⟨rhoA rhoF, rhoA rhoT, rhoA rhoG⟩
theorem lay_LaysM_n171b : Lays.n171 Tryd.prog rho := {
  mixed := by kernel_rfl,
  f129 := by kernel_rfl,
  f171 := by kernel_rfl,
  f243 := by kernel_rfl,
  f246 := by kernel_rfl,
  f283 := by kernel_rfl,
  f284 := by kernel_rfl,
  f285 := by kernel_rfl,
  f286 := by kernel_rfl,
  f317 := by kernel_rfl,
  f318 := by kernel_rfl,
  f319 := by kernel_rfl,
  f320 := by kernel_rfl,
  f337 := by kernel_rfl,
  f338 := by kernel_rfl,
  t0 := by kernel_rfl,
  a0 := fun w => by kernel_rfl,
  z0 := fun w => by kernel_rfl,
  v0 := fun w => by kernel_rfl,
  t2 := by kernel_rfl,
  a2 := fun w => by kernel_rfl,
  z2 := fun w => by kernel_rfl,
  v2 := fun w => by kernel_rfl,
  t3 := by kernel_rfl,
  a3 := fun w => by kernel_rfl,
  z3 := fun w => by kernel_rfl,
  v3 := fun w => by kernel_rfl,
  t4 := by kernel_rfl,
  a4 := fun w => by kernel_rfl,
  z4 := fun w => by kernel_rfl,
  v4 := fun w => by kernel_rfl,
  t5 := by kernel_rfl,
  a5 := fun w => by kernel_rfl,
  z5 := fun w => by kernel_rfl,
  v5 := fun w => by kernel_rfl,
  t9 := by kernel_rfl,
  a9 := fun w => by kernel_rfl,
  z9 := fun w => by kernel_rfl,
  v9 := fun w => by kernel_rfl,
  t20 := by kernel_rfl,
  a20 := fun w => by kernel_rfl,
  z20 := fun w => by kernel_rfl,
  v20 := fun w => by kernel_rfl,
  t37 := by kernel_rfl,
  a37 := fun w => by kernel_rfl,
  z37 := fun w => by kernel_rfl,
  v37 := fun w => by kernel_rfl,
  t46 := by kernel_rfl,
  a46 := fun w => by kernel_rfl,
  z46 := fun w => by kernel_rfl,
  v46 := fun w => by kernel_rfl,
  t51 := by kernel_rfl,
  a51 := fun w => by kernel_rfl,
  z51 := fun w => by kernel_rfl,
  v51 := fun w => by kernel_rfl,
  t53 := by kernel_rfl,
  a53 := fun w => by kernel_rfl,
  z53 := fun w => by kernel_rfl,
  v53 := fun w => by kernel_rfl,
  t171 := by kernel_rfl,
  a171 := fun w => by kernel_rfl,
  z171 := fun w => by kernel_rfl,
  v171 := fun w => by kernel_rfl,
  t173 := by kernel_rfl,
  a173 := fun w => by kernel_rfl,
  z173 := fun w => by kernel_rfl,
  v173 := fun w => by kernel_rfl,
  t212 := by kernel_rfl,
  a212 := fun w => by kernel_rfl,
  z212 := fun w => by kernel_rfl,
  v212 := fun w => by kernel_rfl,
  t213 := by kernel_rfl,
  a213 := fun w => by kernel_rfl,
  z213 := fun w => by kernel_rfl,
  t232 := by kernel_rfl,
  a232 := fun w => by kernel_rfl,
  z232 := fun w => by kernel_rfl,
  v232 := fun w => by kernel_rfl,
  t233 := by kernel_rfl,
  a233 := fun w => by kernel_rfl,
  z233 := fun w => by kernel_rfl,
  v233 := fun w => by kernel_rfl,
  g17 := by kernel_rfl,
  g18 := by kernel_rfl,
  g19 := by kernel_rfl }
theorem lay_LaysM_n171 : LaysM.n171 Tryd.prog rho := { lay_LaysM_n171b with
  i0 := by kernel_rfl,
  i2 := by kernel_rfl,
  i3 := by kernel_rfl,
  i4 := by kernel_rfl,
  i5 := by kernel_rfl,
  i9 := by kernel_rfl,
  i20 := by kernel_rfl,
  i37 := by kernel_rfl,
  i46 := by kernel_rfl,
  i51 := by kernel_rfl,
  i53 := by kernel_rfl,
  i171 := by kernel_rfl,
  i173 := by kernel_rfl,
  i212 := by kernel_rfl,
  i232 := by kernel_rfl,
  i233 := by kernel_rfl,
  m17 := by kernel_rfl,
  m18 := by kernel_rfl,
  m19 := by kernel_rfl }
theorem lay_Lays_n240 : Lays.n240 Tryd.prog rho := {
  mixed := by kernel_rfl,
  f240 := by kernel_rfl,
  f276 := by kernel_rfl,
  t0 := by kernel_rfl,
  a0 := fun w => by kernel_rfl,
  z0 := fun w => by kernel_rfl,
  v0 := fun w => by kernel_rfl,
  t4 := by kernel_rfl,
  a4 := fun w => by kernel_rfl,
  z4 := fun w => by kernel_rfl,
  v4 := fun w => by kernel_rfl,
  t9 := by kernel_rfl,
  a9 := fun w => by kernel_rfl,
  z9 := fun w => by kernel_rfl,
  v9 := fun w => by kernel_rfl,
  t20 := by kernel_rfl,
  a20 := fun w => by kernel_rfl,
  z20 := fun w => by kernel_rfl,
  v20 := fun w => by kernel_rfl,
  t70 := by kernel_rfl,
  a70 := fun w => by kernel_rfl,
  z70 := fun w => by kernel_rfl,
  v70 := fun w => by kernel_rfl,
  t72 := by kernel_rfl,
  a72 := fun w => by kernel_rfl,
  z72 := fun w => by kernel_rfl,
  v72 := fun w => by kernel_rfl,
  t164 := by kernel_rfl,
  a164 := fun w => by kernel_rfl,
  z164 := fun w => by kernel_rfl,
  v164 := fun w => by kernel_rfl }
theorem lay_Lays_n169 : Lays.n169 Tryd.prog rho := {
  mixed := by kernel_rfl,
  f169 := by kernel_rfl,
  t0 := by kernel_rfl,
  a0 := fun w => by kernel_rfl,
  z0 := fun w => by kernel_rfl,
  v0 := fun w => by kernel_rfl,
  t3 := by kernel_rfl,
  a3 := fun w => by kernel_rfl,
  z3 := fun w => by kernel_rfl,
  v3 := fun w => by kernel_rfl,
  t9 := by kernel_rfl,
  a9 := fun w => by kernel_rfl,
  z9 := fun w => by kernel_rfl,
  v9 := fun w => by kernel_rfl,
  t37 := by kernel_rfl,
  a37 := fun w => by kernel_rfl,
  z37 := fun w => by kernel_rfl,
  v37 := fun w => by kernel_rfl,
  t70 := by kernel_rfl,
  a70 := fun w => by kernel_rfl,
  z70 := fun w => by kernel_rfl,
  v70 := fun w => by kernel_rfl,
  t72 := by kernel_rfl,
  a72 := fun w => by kernel_rfl,
  z72 := fun w => by kernel_rfl,
  v72 := fun w => by kernel_rfl,
  t127 := by kernel_rfl,
  a127 := fun w => by kernel_rfl,
  z127 := fun w => by kernel_rfl,
  v127 := fun w => by kernel_rfl }
theorem lay_Lays_n156 : Lays.n156 Tryd.prog rho := {
  mixed := by kernel_rfl,
  f156 := by kernel_rfl,
  f165 := by kernel_rfl,
  f166 := by kernel_rfl,
  f169 := by kernel_rfl,
  f240 := by kernel_rfl,
  f241 := by kernel_rfl,
  f276 := by kernel_rfl,
  f277 := by kernel_rfl,
  t0 := by kernel_rfl,
  a0 := fun w => by kernel_rfl,
  z0 := fun w => by kernel_rfl,
  v0 := fun w => by kernel_rfl,
  t3 := by kernel_rfl,
  a3 := fun w => by kernel_rfl,
  z3 := fun w => by kernel_rfl,
  v3 := fun w => by kernel_rfl,
  t4 := by kernel_rfl,
  a4 := fun w => by kernel_rfl,
  z4 := fun w => by kernel_rfl,
  v4 := fun w => by kernel_rfl,
  t9 := by kernel_rfl,
  a9 := fun w => by kernel_rfl,
  z9 := fun w => by kernel_rfl,
  v9 := fun w => by kernel_rfl,
  t20 := by kernel_rfl,
  a20 := fun w => by kernel_rfl,
  z20 := fun w => by kernel_rfl,
  v20 := fun w => by kernel_rfl,
  t31 := by kernel_rfl,
  a31 := fun w => by kernel_rfl,
  z31 := fun w => by kernel_rfl,
  v31 := fun w => by kernel_rfl,
  t37 := by kernel_rfl,
  a37 := fun w => by kernel_rfl,
  z37 := fun w => by kernel_rfl,
  v37 := fun w => by kernel_rfl,
  t70 := by kernel_rfl,
  a70 := fun w => by kernel_rfl,
  z70 := fun w => by kernel_rfl,
  v70 := fun w => by kernel_rfl,
  t72 := by kernel_rfl,
  a72 := fun w => by kernel_rfl,
  z72 := fun w => by kernel_rfl,
  v72 := fun w => by kernel_rfl,
  t75 := by kernel_rfl,
  a75 := fun w => by kernel_rfl,
  z75 := fun w => by kernel_rfl,
  v75 := fun w => by kernel_rfl,
  t76 := by kernel_rfl,
  a76 := fun w => by kernel_rfl,
  z76 := fun w => by kernel_rfl,
  v76 := fun w => by kernel_rfl,
  t127 := by kernel_rfl,
  a127 := fun w => by kernel_rfl,
  z127 := fun w => by kernel_rfl,
  v127 := fun w => by kernel_rfl,
  t164 := by kernel_rfl,
  a164 := fun w => by kernel_rfl,
  z164 := fun w => by kernel_rfl,
  v164 := fun w => by kernel_rfl }
theorem itoa_calls (n : Int) (h0 : -9223372036854775808 ≤ n) (h1 : n ≤ 9223372036854775807) (w : World) (htab : Lib.TabIs Tryd.prog w "internal/strconv.uint64pow10" .u64 Lib.pow10Tab) : Calls Tryd.prog 51 #[.int .i64 n] w fun e w' => e = .returned (.string ⟨(Lib.itoa n).toArray⟩) ∧ ∃ k os, w' = Sort.grow (w.drewN k) os := Any.strconv_Itoa lay_LaysM_n171 n h0 h1 w htab
theorem bx72 : Builder.X72 Tryd.prog rho := { sizeBuilder := by kernel_rfl, liesBuilder := by kernel_rfl }
set_option maxHeartbeats 2000000 in
set_option maxRecDepth 100000 in
/-- The text of a builder that holds at least one byte: the bytes, and they are frozen. -/
theorem text_calls (b g cap : Nat) (p : Value) (T : TypeId) (fz : Nat × Nat) (cur : Array Value) (l : List UInt8) (w : World) (h0 : l ≠ []) (hb : w.heap[b]? = some (.cells #[p, .slice (some ⟨g, 0, none⟩) l.length cap] T fz)) (hg : w.heap[g]? = some (.cells cur 5 (0, 0)))
    (hc : l.length ≤ cap) (hm : cap ≤ maxLen) (hs : cur.size = cap) (hx : ∀ (j : Nat) (x : UInt8), l[j]? = some x → cur[j]? = some (Value.int .u8 x.toNat)) :
    Calls Tryd.prog 24 #[.pointer (some ⟨b, 0, none⟩)] w fun e w' => e = .returned (.string ⟨l.toArray⟩) ∧ w' = w.drew.freeze ⟨g, 0, none⟩ l.length := by
  have L := lay_Lays_n169
  have hl0 : l.length ≠ 0 := by simpa using h0
  have c1 : w.drew.cell? ⟨b, 1, none⟩ = some (.slice (some ⟨g, 0, none⟩) l.length cap) := by
    have h1 : w.drew.heap[b]? = some (.cells #[p, .slice (some ⟨g, 0, none⟩) l.length cap] T fz) := hb
    rw [Lib.cell_of_heap h1]; rfl
  have hSD : (Builtin.unsafeSliceData_ #[rho.t 37] (rho.t 127) #[.slice (some ⟨g, 0, none⟩) l.length cap]).run Tryd.prog w.drew = .ok (.pointer (some ⟨g, 0, none⟩)) w.drew := Lib.run_unsafeSliceData_row _ _ _ _ _ _ (by omega)
  have hUS : (Builtin.unsafeString_ #[rho.t 127, rho.t 3] (rho.t 9) #[.pointer (some ⟨g, 0, none⟩), .int .i64 l.length]).run Tryd.prog w.drew = .ok (.string ⟨l.toArray⟩) (w.drew.freeze ⟨g, 0, none⟩ l.length) := by
    refine Lib.run_unsafeString_row w.drew (rho.t 127) (rho.t 3) (rho.t 9) 5 L.t127 (by kernel_rfl) g cur.size (by have hg' : w.drew.heap[g]? = some (.cells cur 5 (0, 0)) := hg; simp [World.shape?, hg']) l h0 (by omega) (by unfold maxLen at hm; omega) ?_
    intro j x hj
    have h1 : w.drew.heap[g]? = some (.cells cur 5 (0, 0)) := hg
    rw [show ((⟨g, 0, none⟩ : Addr).add j) = ⟨g, j, none⟩ from (by simp [Addr.add]; intro h; exact h.symm), Lib.cell_of_heap h1]
    exact hx j x hj
  have mixed := L.mixed
  have t72 := L.t72; have a72 := L.a72; have z72 := L.z72; have v72 := L.v72; have u72 := run_underlying L.t72
  have t70 := L.t70; have a70 := L.a70; have z70 := L.z70; have v70 := L.v70; have u70 := run_underlying L.t70
  have t37 := L.t37; have a37 := L.a37; have z37 := L.z37; have v37 := L.v37; have u37 := run_underlying L.t37
  have t127 := L.t127; have a127 := L.a127; have z127 := L.z127; have v127 := L.v127; have u127 := run_underlying L.t127
  have t3 := L.t3; have a3 := L.a3; have z3 := L.z3; have v3 := L.v3; have u3 := run_underlying L.t3
  have t9 := L.t9; have a9 := L.a9; have z9 := L.z9; have v9 := L.v9; have u9 := run_underlying L.t9
  show Calls Tryd.prog (rho.f 169) _ _ _
  go_enter L.f169, Body.n169_ntmps rho
  go_wp2
  go_region_o
  all_goals (go_wp2; go_ret; exact ⟨rfl, rfl⟩)
theorem check_new (b : Nat) (w : World) (h0 : w.cell? ⟨b, 0, none⟩ = some (.pointer none)) (hsh : w.shape? b = some (53, 2)) (hfz : w.frozen? ⟨b, 0, none⟩ = false) :
    Calls Tryd.prog 48 #[.pointer (some ⟨b, 0, none⟩)] w fun e w' => e = .returned (.tuple #[]) ∧ w' = w.setCell ⟨b, 0, none⟩ (.pointer (some ⟨b, 0, none⟩)) := Any.Builder_copyCheck_fresh lay_Lays_n240 bx72 b w h0 hsh hfz
theorem check_used (b : Nat) (w : World) (h0 : w.cell? ⟨b, 0, none⟩ = some (.pointer (some ⟨b, 0, none⟩))) :
    Calls Tryd.prog 48 #[.pointer (some ⟨b, 0, none⟩)] w fun e w' => e = .returned (.tuple #[]) ∧ w' = w := Any.Builder_copyCheck_used lay_Lays_n240 bx72 b w h0
theorem bxe : Builder.Extra Tryd.prog rho := { bx72 with
  t5 := by kernel_rfl, a5 := fun w => by kernel_rfl, z5 := fun w => by kernel_rfl, v5 := fun w => by kernel_rfl, infoByte := by kernel_rfl, cellsByte := by kernel_rfl, sizeByte := by kernel_rfl, neB5 := by decide }
theorem join_calls (bk o c : Nat) (xs : List ByteArray) (sep : ByteArray) (w : World) (hcells : ∀ (j : Nat) x, xs[j]? = some x → w.cell? ⟨bk, o + j, none⟩ = some (.string x)) (hbk : bk < w.heap.size) (hN : xs.length ≤ 140737488355328) (hcap : xs.length ≤ c)
    (hlen : (Lib.join (xs.map (·.data.toList)) sep.data.toList).length ≤ 281474976710656) :
    Calls Tryd.prog 21 #[.slice (some ⟨bk, o, none⟩) xs.length c, .string sep] w fun e w' => e = .returned (.string ⟨(Lib.join (xs.map (·.data.toList)) sep.data.toList).toArray⟩) ∧ Go.RowKit.Below w.heap.size w w' := Any.strings_Join_48 lay_Lays_n156 bxe bk o c xs sep w hcells hbk hN hcap hlen
end Go.Pm
/- strings.Builder and strconv.Itoa, as the abstract machine sees them. -/
set_option linter.unusedVariables false
set_option linter.unusedSimpArgs false
namespace Go.Pm
open Go.Proofs
def bdFresh : AO := .iter (.cells #[.pointer none, .slice none 0 0] 53)
theorem callOk {f : Nat} {fn : Func} (hf : Tryd.prog.funcs[f]? = some fn) (hn : (fn.name == "runtime.NumGoroutine") = false) (hb : fn.body.isNone = false) : CallOk X.P f := ⟨fn, hf, hn, hb⟩
theorem one_val {F : FH} {η : Et} {n : Nat} {x : AV} {vals : Array Value} (hn : vals.size = [x].length) (hv : ∀ j (h : j < [x].length), VRel F η n [x][j] (vals.getD j undef)) : ∃ v, vals = #[v] ∧ VRel F η n x v := by
  obtain ⟨l⟩ := vals
  match l, hn, hv with
  | [y], _, hv => exact ⟨y, rfl, by simpa using hv 0 (by simp)⟩
theorem check_new_ok {σ : St} {i : Nat} (ho : σ.obj i = some bdFresh) : AFun X 48 [.ref i 0] σ fun E σ' => E = .ret (.tup []) ∧ σ' = σ.set i (.var [.ref i 0, .d (.s (.slice none 0 0))]) := by
  refine ⟨callOk Tryd.func48 (by kernel_rfl) (by kernel_rfl), fun F η w vals hg hf hs hn hv => ?_⟩
  obtain ⟨v, rfl, hvv⟩ := one_val hn hv
  have hor := hs.ob i _ ho
  have hin := hs.lt i _ ho
  generalize hb0 : η.blk i = b
  cases hvv with
  | ref h1 =>
    cases hor with
    | iter hb =>
      rw [hb0] at hb ⊢
      have hlt : b < w.heap.size := by
        rcases Nat.lt_or_ge b w.heap.size with h | h
        · exact h
        · rw [Array.getElem?_eq_none (by omega)] at hb; cases hb
      refine (check_new b w (by rw [Lib.cell_of_heap hb]; rfl) (by simp [World.shape?, hb]) (Lib.frozen_of_heap hb 0)).mono ?_
      rintro e w' ⟨rfl, rfl⟩
      have hbk : (w.setCell ⟨b, 0, none⟩ (.pointer (some ⟨b, 0, none⟩))).heap[b]? = some (.cells #[.pointer (some ⟨b, 0, none⟩), .slice none 0 0] 53 (0, 0)) := by
        simp only [World.setCell, Array.getElem?_modify, if_true, hb, Option.map_some]
        rfl
      obtain ⟨g1, g2, g3⟩ := upd (η' := η) (w' := w.setCell ⟨b, 0, none⟩ (.pointer (some ⟨b, 0, none⟩))) hf hs i (.var [.ref i 0, .d (.s (.slice none 0 0))]) σ.next hin (Nat.le_refl _) (Et.agree_refl _ _) ⟨by simp [World.setCell], rfl, rfl⟩
        (fun b' hb' hno => by
          have hne : b ≠ b' := fun e => hno _ ho (by show some (η.blk i) = some b'; rw [hb0, e])
          simp only [World.setCell, Array.getElem?_modify]
          rw [if_neg hne])
        (.var #[.pointer (some ⟨b, 0, none⟩), .slice none 0 0] 53 (by rw [hb0]; exact hbk) rfl (fun j hj => by
          match j, hj with
          | 0, _ => rfl
          | 1, _ => rfl) (fun j hj => by
          match j, hj with
          | 0, _ => show VRel F η σ.next (.ref i 0) (.pointer (some ⟨b, 0, none⟩)); rw [← hb0]; exact .ref hin
          | 1, _ => exact .d (.s _)))
        (fun b' hb' _ => ⟨_, ho, hb'⟩)
      exact ⟨F, η, σ.set i (.var [.ref i 0, .d (.s (.slice none 0 0))]), .ret (.tup []), g1, g2, g3, VRel.tup rfl (fun j hj => absurd hj (by simp)), rfl, rfl⟩
theorem check_used_ok {σ : St} {i : Nat} {x : AV} (ho : σ.obj i = some (.var [.ref i 0, x])) : AFun X 48 [.ref i 0] σ fun E σ' => E = .ret (.tup []) ∧ σ' = σ := by
  refine ⟨callOk Tryd.func48 (by kernel_rfl) (by kernel_rfl), fun F η w vals hg hf hs hn hv => ?_⟩
  obtain ⟨v, rfl, hvv⟩ := one_val hn hv
  have hor := hs.ob i _ ho
  cases hvv with
  | ref h1 =>
    cases hor with
    | var c E hb hn1 ho1 hr =>
      have h0 := hr 0 (by simp)
      have hc0 : c[0]? = some (.pointer (some ⟨η.blk i, 0, none⟩)) := by
        have hz : c.size = 2 := hn1
        have e1 : c.getD 0 undef = .pointer (some ⟨η.blk i, 0, none⟩) := by
          generalize hq : c.getD 0 undef = q at h0
          cases h0 with
          | ref _ => rfl
        rw [Array.getD_eq_getD_getElem?] at e1
        have : (0 : Nat) < c.size := by omega
        simp only [Array.getElem?_eq_getElem this, Option.getD_some] at e1 ⊢
        rw [e1]
      refine (check_used (η.blk i) w (by rw [Lib.cell_of_heap hb]; exact hc0)).mono ?_
      rintro e w' ⟨rfl, rfl⟩
      exact ⟨F, η, σ, .ret (.tup []), .refl _ _ _ _, hf, hs, VRel.tup rfl (fun j hj => absurd hj (by simp)), rfl, rfl⟩
/-- The text of a builder, which is given up with it. -/
theorem text_ok {σ : St} {i r h n : Nat} {s : ByteArray} {y : AV} (ho : σ.obj i = some (.var [y, .sl r h 0 n])) (hr : σ.obj r = some (.row h 5 1 (byteRows s))) (hn : n = s.size) (h0 : n ≠ 0) :
    AFun X 24 [.ref i 0] σ fun E σ' => E = .ret (vs s) ∧ σ' = σ.drop r := by
  refine ⟨callOk Tryd.func24 (by kernel_rfl) (by kernel_rfl), fun F η w vals hg hf hs hnv hv => ?_⟩
  obtain ⟨v, rfl, hvv⟩ := one_val hnv hv
  have hor := hs.ob i _ ho
  have horr := hs.ob r _ hr
  cases hvv with
  | ref h1 =>
    cases hor with
    | var c E hb hn1 ho1 hrel =>
      have hc1 := hrel 1 (by simp)
      cases horr with
      | row xs b1 b2 b3 b4 b5 b6 b7 =>
        simp only [List.getElem_cons_succ, List.getElem_cons_zero] at hc1
        generalize hq : c.getD 1 undef = q at hc1
        cases hc1 with
        | @sl _ _ _ _ g cap sz off q1 q2 hh hle hc' hoff =>
          have hoff := hoff (by omega)
          rw [Nat.zero_mul] at hoff
          subst hoff
          rw [Nat.sub_zero, Nat.sub_zero] at hq
          have hblk : (η.hdr h).blk = some g := by rw [hh]
          obtain ⟨cur, hg1, hn2, hcap1, hsz1, htk⟩ := own_row_blk b4 hblk
          have hcap : (η.hdr h).cap = cap := by rw [hh]
          rw [hcap] at hn2 hcap1 hsz1
          rw [byteRows_length, Nat.mul_one] at htk
          rw [byteRows_length] at hn2
          rw [Nat.mul_one] at hsz1
          have hlen : s.data.toList.length = n := by rw [hn]; simp
          have hne : s.data.toList ≠ [] := by intro e; rw [e] at hlen; simp at hlen; omega
          have hce : c = #[c.getD 0 undef, .slice (some ⟨g, 0, none⟩) s.data.toList.length cap] := by
            rw [hlen, ← hq]
            obtain ⟨l⟩ := c
            match l, hn1 with
            | [a, b], _ => rfl
          rw [hce] at hb
          refine (text_calls (η.blk i) g cap _ E (0, 0) cur s.data.toList w hne hb hg1 (by omega) hcap1 hsz1 (fun j x hx => ?_)).mono ?_
          · have hjl : j < s.data.toList.length := (List.getElem?_eq_some_iff.1 hx).1
            have hjb : j < (byteRows s).length := by rw [byteRows_length]; simpa using hjl
            have hrow := b7 j hjb 0 (by simp [byteRows])
            have hcur : cur[j]? = xs[j]? := by
              rw [← htk, List.getElem?_take, if_pos (by rw [byteRows_length] at hjb; exact hjb), Array.getElem?_toList]
            have hxl : xs.length = s.size := by
              have := b4.1
              rw [byteRows_length, Nat.mul_one] at this
              exact this
            have hjx : j < xs.length := by rw [hxl]; rw [byteRows_length] at hjb; exact hjb
            rw [hcur, List.getElem?_eq_getElem hjx]
            have e2 : xs.getD (j * 1 + 0) undef = xs[j] := by
              rw [Nat.mul_one, Nat.add_zero]
              simp [List.getD, List.getElem?_eq_getElem hjx]
            rw [e2] at hrow
            have e3 : (byteRows s)[j][0]'(by simp [byteRows]) = .d (.s (.int .u8 x.toNat)) := by
              have hxe : s.data.toList[j] = x := (List.getElem?_eq_some_iff.1 hx).2
              simp only [byteRows, List.getElem_map, List.getElem_cons_zero, hxe]
            rw [e3] at hrow
            rw [hrow.s_inv]
          · rintro e w' ⟨rfl, rfl⟩
            have hm : More w (w.drew.freeze ⟨g, 0, none⟩ s.data.toList.length) := by
              unfold World.freeze
              split
              · exact ⟨Nat.le_refl _, rfl, rfl⟩
              · exact ⟨by simp only [Array.size_modify]; exact Nat.le_refl _, rfl, rfl⟩
            obtain ⟨g1, g2, g3⟩ := drop_step (w' := w.drew.freeze ⟨g, 0, none⟩ s.data.toList.length) hf hs hr hm (fun b hbn hlt => by
              have hne2 : g ≠ b := fun e => hbn (by simp only [own]; rw [hblk, e])
              unfold World.freeze
              split
              · rfl
              · simp only [Array.getElem?_modify]
                rw [if_neg hne2]
                rfl)
            exact ⟨F, η, σ.drop r, .ret (vs s), g1, g2, g3, .d (.s _), rfl, rfl⟩
        | sl0 _ _ _ => exact absurd rfl h0
theorem pow_tab : Lib.pow10Tab = pow10L := by kernel_rfl
theorem itoa_ok (n : Int) (h0 : -9223372036854775808 ≤ n) (h1 : n ≤ 9223372036854775807) : PFun X 51 [vi n] (vs ⟨(Lib.itoa n).toArray⟩) := by
  refine PFun.ext1 (callOk Tryd.func51 (by kernel_rfl) (by kernel_rfl)) fun F w hg hf => itoa_calls n h0 h1 w ?_
  obtain ⟨hd, c, E, fz, hF, hsz⟩ := hg 3 (pow10L.map fun n => .s (.int .u64 n)) rfl
  have hw := hf _ _ hF
  unfold Lib.TabIs World.var?
  rw [show Tryd.prog.globalNamed "internal/strconv.uint64pow10" = some 3 by kernel_rfl]
  simp only [Option.bind_some]
  rw [hw]
  simp only [Option.some.injEq]
  rw [pow_tab]
  generalize hp : Value.pointer (some ⟨3, 0, none⟩) = p at hd
  cases hd with
  | ip _ _ b o c' E' fz' f hb hc ho hr =>
    simp only [Value.pointer.injEq, Option.some.injEq, Addr.mk.injEq] at hp
    obtain ⟨hp1, hp2, _⟩ := hp
    subst hp1
    have ho0 : o = 0 := by omega
    subst ho0
    rw [hF] at hb
    simp only [Option.some.injEq, Obj.cells.injEq] at hb
    obtain ⟨rfl, rfl, rfl⟩ := hb
    apply Array.ext
    · rw [hsz]; simp
    · intro j hj1 hj2
      have hjl : j < pow10L.length := by rw [hsz] at hj1; simpa using hj1
      have e1 := hc j (by simpa using hjl)
      have e2 := hr j (by simpa using hjl)
      simp only [List.getElem_map] at e2
      have e3 : f j = .int .u64 pow10L[j] := by
        generalize f j = u at e2
        cases e2
        rfl
      simp only [Array.getElem?_eq_getElem hj1, Nat.zero_add, Option.some.injEq] at e1
      rw [e1, e3]
      simp
end Go.Pm
/- strings.Builder: WriteString. -/
set_option linter.unusedVariables false
set_option linter.unusedSimpArgs false
namespace Go.Pm
attribute [local irreducible] AR Ok inBlock andThen endQ aoper
set_option maxHeartbeats 1000000
open Go.Proofs
def noErr : AV := .d (.s .nilIface)
def wrNew (σ : St) (i : Nat) (s : ByteArray) : St := ((σ.set i (.var [.ref i 0, .d (.s (.slice none 0 0))])).alloc (.row σ.next 5 1 (byteRows s))).set i (.var [.ref i 0, .sl σ.next σ.next 0 s.size])
theorem write_new_ok {σ : St} {i : Nat} (ho : σ.obj i = some bdFresh) (s : ByteArray) (hs : s.size ≤ 140737488355328) :
    AFun X 20 [.ref i 0, vs s] σ fun E σ' => E = .ret (.tup [vi s.size, noErr]) ∧ σ' = wrNew σ i s := by
  refine AFun.wf (callOk Tryd.func20 (by kernel_rfl) (by kernel_rfl)) fun hwf => ?_
  have hi := hwf i _ ho
  have hne : i ≠ σ.next := by omega
  refine afun_of Tryd.func20 rfl (by decide) Tryd.ntmps20 Tryd.results20 (by simp) ?_
  have h1 : (σ.set i (.var [.ref i 0, .d (.s (.slice none 0 0))])).obj i = some (.var [.ref i 0, .d (.s (.slice none 0 0))]) := by rw [St.obj_set, if_pos rfl]
  have h2 : ∀ o, ((σ.set i (.var [.ref i 0, .d (.s (.slice none 0 0))])).alloc o).obj i = some (.var [.ref i 0, .d (.s (.slice none 0 0))]) := fun o => by
    rw [St.obj_alloc, St.next_set, if_neg hne]; exact h1
  repeat' first
    | refine Z1 ?_ | refine Z2 ?_ | refine Z3 ?_ | refine Z4 ?_ | refine Z5 ?_ | refine Z6 ?_ | refine Z7 ?_ | refine Z8 ?_ | refine Z9 ?_ | refine Za (fun hc => ?_) (fun hc => ?_) | refine Zb (fun hc => ?_) (fun hc => ?_)
    | refine Ym (check_new_ok ho) ?_ | refine nil_check ?_ | refine Ys h1 ?_ | refine Uh hs ?_ | refine Yt (m := [.ref i 0, .sl σ.next σ.next 0 s.size]) (h2 _) ?_ | refine Zd ?_ | refine Ze ?_ | refine Zf ?_ | refine Zg ?_ | refine Zh ?_
    | refine Zi ?_ | refine Zj ?_ | refine Zk ?_ | refine Zl ?_ | refine Zm ?_ | refine Zn (fun hc => ?_) (fun hc => ?_) | refine ret2 ?_ | refine Zo ?_ | refine ok_seq ?_ | refine ok_reg ?_ | refine Zp ?_ | refine Zq ?_
    | refine Zr (fun hc => ?_) (fun hc => ?_) | refine ok_block ?_ | refine ok_exit ?_ | refine ok_skip ?_ | refine ok_ret ?_ | refine x_normal_then ?_ | refine x_exit_here ?_ | refine Zs ?_ | refine Zv ?_ | refine x_ret_then ?_
    | refine x_ret_block ?_ | refine x_normal_block ?_ | refine Zt ?_ | refine Zu ?_
  exact ⟨rfl, rfl⟩
def wrUsed (σ : St) (i r : Nat) (s : ByteArray) : St := (bumpSet σ r (.row σ.next 5 1 (byteRows s))).set i (.var [.ref i 0, .sl r σ.next 0 s.size])
theorem write_ok {σ : St} {i r h : Nat} {t : ByteArray} (ho : σ.obj i = some (.var [.ref i 0, .sl r h 0 t.size])) (hr : σ.obj r = some (.row h 5 1 (byteRows t))) (s : ByteArray) (hs : (t ++ s).size ≤ 140737488355328) :
    AFun X 20 [.ref i 0, vs s] σ fun E σ' => E = .ret (.tup [vi s.size, noErr]) ∧ σ' = wrUsed σ i r (t ++ s) := by
  have hne : i ≠ r := fun e => by rw [e, hr] at ho; cases ho
  refine afun_of Tryd.func20 rfl (by decide) Tryd.ntmps20 Tryd.results20 (by simp) ?_
  have h2 : ∀ o, (bumpSet σ r o).obj i = some (.var [.ref i 0, .sl r h 0 t.size]) := fun o => by
    rw [obj_bumpSet, if_neg hne]; exact ho
  repeat' first
    | refine Z1 ?_ | refine Z2 ?_ | refine Z3 ?_ | refine Z4 ?_ | refine Z5 ?_ | refine Z6 ?_ | refine Z7 ?_ | refine Z8 ?_ | refine Z9 ?_ | refine Za (fun hc => ?_) (fun hc => ?_) | refine Zb (fun hc => ?_) (fun hc => ?_)
    | refine Ym (check_used_ok ho) ?_ | refine nil_check ?_ | refine Ys ho ?_ | refine Ui hr hs ?_ | refine Yt (m := [.ref i 0, .sl r σ.next 0 (t ++ s).size]) (h2 _) ?_ | refine Zd ?_ | refine Ze ?_ | refine Zf ?_ | refine Zg ?_
    | refine Zh ?_ | refine Zi ?_ | refine Zj ?_ | refine Zk ?_ | refine Zl ?_ | refine Zm ?_ | refine Zn (fun hc => ?_) (fun hc => ?_) | refine ret2 ?_ | refine Zo ?_ | refine ok_seq ?_ | refine ok_reg ?_ | refine Zp ?_ | refine Zq ?_
    | refine Zr (fun hc => ?_) (fun hc => ?_) | refine ok_block ?_ | refine ok_exit ?_ | refine ok_skip ?_ | refine ok_ret ?_ | refine x_normal_then ?_ | refine x_exit_here ?_ | refine Zs ?_ | refine Zv ?_ | refine x_ret_then ?_
    | refine x_ret_block ?_ | refine x_normal_block ?_ | refine Zt ?_ | refine Zu ?_
  exact ⟨rfl, rfl⟩
theorem write_first_ok {σ : St} {i r : Nat} (ho : σ.obj i = some bdFresh) (hr : σ.obj r = none) (hrn : r < σ.next) (s : ByteArray) (hs : s.size ≤ 140737488355328) :
    AFun X 20 [.ref i 0, vs s] σ fun E σ' => E = .ret (.tup [vi s.size, noErr]) ∧ σ' = wrUsed σ i r s := by
  refine AFun.wf (callOk Tryd.func20 (by kernel_rfl) (by kernel_rfl)) fun hwf => ?_
  have hi := hwf i _ ho
  have hne : i ≠ r := fun e => by rw [e, hr] at ho; cases ho
  refine afun_of Tryd.func20 rfl (by decide) Tryd.ntmps20 Tryd.results20 (by simp) ?_
  have h1 : (σ.set i (.var [.ref i 0, .d (.s (.slice none 0 0))])).obj i = some (.var [.ref i 0, .d (.s (.slice none 0 0))]) := by rw [St.obj_set, if_pos rfl]
  have h3 : (σ.set i (.var [.ref i 0, .d (.s (.slice none 0 0))])).obj r = none := by rw [St.obj_set, if_neg (Ne.symm hne)]; exact hr
  have h2 : ∀ o, (bumpSet (σ.set i (.var [.ref i 0, .d (.s (.slice none 0 0))])) r o).obj i = some (.var [.ref i 0, .d (.s (.slice none 0 0))]) := fun o => by
    rw [obj_bumpSet, if_neg hne]; exact h1
  repeat' first
    | refine Um h3 hrn hs ?_ | refine Z1 ?_ | refine Z2 ?_ | refine Z3 ?_ | refine Z4 ?_ | refine Z5 ?_ | refine Z6 ?_ | refine Z7 ?_ | refine Z8 ?_ | refine Z9 ?_ | refine Za (fun hc => ?_) (fun hc => ?_)
    | refine Zb (fun hc => ?_) (fun hc => ?_) | refine Ym (check_new_ok ho) ?_ | refine nil_check ?_ | refine Ys h1 ?_ | refine Yt (m := [.ref i 0, .sl r σ.next 0 s.size]) (h2 _) ?_ | refine Zd ?_ | refine Ze ?_ | refine Zf ?_
    | refine Zg ?_ | refine Zh ?_ | refine Zi ?_ | refine Zj ?_ | refine Zk ?_ | refine Zl ?_ | refine Zm ?_ | refine Zn (fun hc => ?_) (fun hc => ?_) | refine ret2 ?_ | refine Zo ?_ | refine ok_seq ?_ | refine ok_reg ?_ | refine Zp ?_
    | refine Zq ?_ | refine Zr (fun hc => ?_) (fun hc => ?_) | refine ok_block ?_ | refine ok_exit ?_ | refine ok_skip ?_ | refine ok_ret ?_ | refine x_normal_then ?_ | refine x_exit_here ?_ | refine Zs ?_ | refine Zv ?_
    | refine x_ret_then ?_ | refine x_ret_block ?_ | refine x_normal_block ?_ | refine Zt ?_ | refine Zu ?_
  refine ⟨rfl, St.ext' (funext fun j => ?_) rfl⟩
  simp only [wrUsed, St.obj_set, obj_bumpSet]
  by_cases a : j = i
  · simp [a]
  · by_cases c : j = r
    · simp [a, c, Ne.symm hne]
    · simp [a, c]
end Go.Pm
/- The data of machines, and how they stand for rows of cells. -/
set_option linter.unusedVariables false
namespace Go.Pm
structure Slt where
  name : ByteArray
  type : Int
structure Sm where
  kind : Int
  name : ByteArray
  pos : Int
  outs : List ByteArray
  code : List Itm
  args : List (List Itm)
structure Cls where
  name : ByteArray
  ins : List Slt
  outs : List Slt
  locs : List ByteArray
  mems : List Int
  insts : List Int
  body : List Sm
def eNum (n : Int) : List D := [.s (.int .i64 n)]
def eSlt (x : Slt) : List D := [.s (.string x.name), .s (.int .i64 x.type)]
def eSm (x : Sm) : List D := [.s (.int .i64 x.kind), .s (.string x.name), .s (.int .i64 x.pos), .im (x.outs.map eStr), .im (x.code.map eItm), .im (x.args.map eItms)]
def eCls (x : Cls) : List D := [.s (.string x.name), .im (x.ins.map eSlt), .im (x.outs.map eSlt), .im (x.locs.map eStr), .im (x.mems.map eNum), .im (x.insts.map eNum), .im (x.body.map eSm)]
def wNum0 (_ : Int) : Nat := 0
theorem wNum0_sum : ∀ l : List Int, (l.map wNum0).sum = 0
  | [] => rfl
  | x :: l => by simp only [List.map_cons, List.sum_cons, wNum0_sum l, wNum0]
def wSlt (x : Slt) : Nat := x.name.size
def wSm (x : Sm) : Nat := x.name.size + wL wStr x.outs + wL wItm x.code + wL (wL wItm) x.args
def wCls (x : Cls) : Nat := x.name.size + wL wSlt x.ins + wL wSlt x.outs + wL wStr x.locs + wL wNum0 x.mems + wL wNum0 x.insts + wL wSm x.body
def dNums (l : List Int) : Prop := l.length ≤ mx
def dSlt (x : Slt) : Prop := x.name.size ≤ mx
def dSm (x : Sm) : Prop := x.name.size ≤ mx ∧ dL dStr x.outs ∧ dL dItm x.code ∧ dL (dL dItm) x.args
def dCls (x : Cls) : Prop := x.name.size ≤ mx ∧ dL dSlt x.ins ∧ dL dSlt x.outs ∧ dL dStr x.locs ∧ dNums x.mems ∧ dNums x.insts ∧ dL dSm x.body
end Go.Pm
/- The specification's words for numbers and signs. -/
set_option linter.unusedVariables false
set_option linter.unusedSimpArgs false
namespace Go.Pm
attribute [local irreducible] AR Ok inBlock andThen endQ aoper
set_option maxHeartbeats 2000000
open Go.Proofs
def digB : ByteArray := B [48, 49, 50, 51, 52, 53, 54, 55, 56, 57]
theorem dig_ex : ∀ d : Nat, d < 10 → digB.extract d (d + 1) = B [UInt8.ofNat (48 + d)] := by
  intro d hd
  have h : ∀ d : Fin 10, digB.extract d.val (d.val + 1) = B [UInt8.ofNat (48 + d.val)] := by decide
  exact h ⟨d, hd⟩
theorem itoaB_small {k : Nat} (h : k < 10) : itoaB (k : Int) = B [UInt8.ofNat (48 + k)] := by
  unfold itoaB B; rw [Lib.itoa_nonneg, Lib.decDigits, dif_pos h]
theorem itoaB_big {k : Nat} (h : ¬ k < 10) : itoaB (k : Int) = itoaB ((k / 10 : Nat) : Int) ++ B [UInt8.ofNat (48 + k % 10)] := by
  unfold itoaB B; rw [Lib.itoa_nonneg, Lib.itoa_nonneg, Lib.decDigits, dif_neg h]
  apply ByteArray.ext
  simp [ByteArray.data_append]
theorem itoaB_neg {k : Nat} (h : 1 ≤ k) : itoaB (-(k : Int)) = B [45] ++ itoaB (k : Int) := by
  unfold itoaB B; rw [Lib.itoa_nonneg, Lib.itoa_neg k h]
  apply ByteArray.ext
  simp [ByteArray.data_append]
theorem itoaB_len (n : Int) (h0 : -9223372036854775808 ≤ n) (h1 : n ≤ 9223372036854775807) : (itoaB n).size ≤ 21 := by
  have := Lib.itoa_length_le n h0 h1
  exact this
theorem dec_nat (k : Nat) : (k : Int) ≤ 9223372036854775807 → PFun X 41 [vi (k : Int)] (vs (itoaB (k : Int))) := by
  induction k using Nat.strongRecOn with
  | _ k ih =>
  intro hk
  have e1 : decide ((k : Int) < 0) = false := decide_eq_false (by omega)
  by_cases h : k < 10
  · have e2 : decide ((k : Int) < 10) = true := decide_eq_true (by omega)
    have e3 := dig_ex k h
    have e4 : digB.size = 10 := rfl
    rw [itoaB_small h]
    refine pfun_of Tryd.func41 rfl (by decide) Tryd.ntmps41 Tryd.results41 (by simp) rfl rfl ?_
    repeat' first
      | refine Z1 ?_ | refine Z2 ?_ | refine Z3 ?_ | refine Z4 ?_ | refine Z5 ?_ | refine Z6 ?_ | refine Z7 ?_ | refine Z8 ?_ | refine Z9 ?_ | refine Za (fun hc => ?_) (fun hc => ?_) | refine Zb (fun hc => ?_) (fun hc => ?_)
      | refine Un (s := digB) (m := (k : Int)) k (k + 1) e3 ?_ | refine Zd ?_ | refine Ze ?_ | refine Zf ?_ | refine Zg ?_ | refine Zh ?_ | refine Zi ?_ | refine Zj ?_ | refine Zk ?_ | refine Zl ?_ | refine Zm ?_
      | refine Zn (fun hc => ?_) (fun hc => ?_) | refine Zo ?_ | refine ok_seq ?_ | refine ok_reg ?_ | refine Zp ?_ | refine Zq ?_ | refine Zr (fun hc => ?_) (fun hc => ?_) | refine ok_block ?_ | refine ok_exit ?_ | refine ok_skip ?_
      | refine ok_ret ?_ | refine x_normal_then ?_ | refine x_exit_here ?_ | refine Zs ?_ | refine Zv ?_ | refine x_ret_then ?_ | refine x_ret_block ?_ | refine x_normal_block ?_ | refine Zt ?_ | refine Zu ?_
    rfl
  · have e2 : decide ((k : Int) < 10) = false := decide_eq_false (by omega)
    have q1 : (k : Int).tdiv 10 = ((k / 10 : Nat) : Int) := by rw [Int.tdiv_eq_ediv_of_nonneg (by omega)]; omega
    have q2 : (k : Int).tmod 10 = ((k % 10 : Nat) : Int) := by rw [Int.tmod_eq_emod_of_nonneg (by omega)]; omega
    have ihk := ih (k / 10) (by omega) (by omega)
    have q3 : IntKind.i64.wrap ((k : Int).tdiv 10) = ((k / 10 : Nat) : Int) := by rw [q1]; exact wrap_id (by omega) (by omega)
    have ihk : PFun X 41 [vi (IntKind.i64.wrap ((k : Int).tdiv 10))] (vs (itoaB ((k / 10 : Nat) : Int))) := by rw [q3]; exact ihk
    have e3 := dig_ex (k % 10) (by omega)
    have e4 : digB.size = 10 := rfl
    rw [itoaB_big h]
    have hz := itoaB_len ((k / 10 : Nat) : Int) (by omega) (by omega)
    have hz2 : (itoaB ((k / 10 : Nat) : Int) ++ B [UInt8.ofNat (48 + k % 10)]).size ≤ 9223372036854775807 := by
      rw [ByteArray.size_append]
      have : (B [UInt8.ofNat (48 + k % 10)]).size = 1 := rfl
      omega
    refine pfun_of Tryd.func41 rfl (by decide) Tryd.ntmps41 Tryd.results41 (by simp) rfl rfl ?_
    repeat' first
      | refine Z1 ?_ | refine Z2 ?_ | refine Z3 ?_ | refine Z4 ?_ | refine Z5 ?_ | refine Z6 ?_ | refine Z7 ?_ | refine Z8 ?_ | refine Z9 ?_ | refine Za (fun hc => ?_) (fun hc => ?_) | refine Zb (fun hc => ?_) (fun hc => ?_)
      | refine Zc (ihk) ?_ | refine Un (s := digB) (k % 10) (k % 10 + 1) e3 ?_ | refine Ul (a := itoaB ((k / 10 : Nat) : Int)) (b := B [UInt8.ofNat (48 + k % 10)]) (hb := hz2) ?_ | refine Zd ?_ | refine Ze ?_ | refine Zf ?_ | refine Zg ?_
      | refine Zh ?_ | refine Zi ?_ | refine Zj ?_ | refine Zk ?_ | refine Zl ?_ | refine Zm ?_ | refine Zn (fun hc => ?_) (fun hc => ?_) | refine Zw ?_ | refine Zx ?_ | refine Zy ?_ | refine Zz (Zc (ihk) ⟨rfl, rfl⟩) ?_
      | refine Zz (Un (s := digB) (k % 10) (k % 10 + 1) e3 ⟨rfl, rfl⟩) ?_ | refine Zz (Ul (a := itoaB ((k / 10 : Nat) : Int)) (b := B [UInt8.ofNat (48 + k % 10)]) (hb := hz2) ⟨rfl, rfl⟩) ?_ | refine Zz (Zd ⟨rfl, rfl⟩) ?_
      | refine Zz (Ze ⟨rfl, rfl⟩) ?_ | refine Zz (Zf ⟨rfl, rfl⟩) ?_ | refine Zz (Zg ⟨rfl, rfl⟩) ?_ | refine Zz (Zh ⟨rfl, rfl⟩) ?_ | refine Zz (Zi ⟨rfl, rfl⟩) ?_ | refine Zz (Zj ⟨rfl, rfl⟩) ?_ | refine Zz (Zk ⟨rfl, rfl⟩) ?_
      | refine Zz (Zl ⟨rfl, rfl⟩) ?_ | refine Zz (Zm ⟨rfl, rfl⟩) ?_ | refine Zo ?_ | refine ok_seq ?_ | refine ok_reg ?_ | refine ok_draw X_mixed (by decide +kernel) ?_ | refine Zp ?_ | refine Zq ?_ | refine Zr (fun hc => ?_) (fun hc => ?_)
      | refine ok_block ?_ | refine ok_exit ?_ | refine ok_skip ?_ | refine ok_ret ?_ | refine x_normal_then ?_ | refine x_exit_here ?_ | refine Zs ?_ | refine Zv ?_ | refine x_ret_then ?_ | refine x_ret_block ?_ | refine x_normal_block ?_
      | refine Zt ?_ | refine Zu ?_
    rfl
theorem dec_ok (n : Int) (h0 : -9223372036854775807 ≤ n) (h1 : n ≤ 9223372036854775807) : PFun X 41 [vi n] (vs (itoaB n)) := by
  by_cases hn : n < 0
  · obtain ⟨k, rfl⟩ : ∃ k : Nat, n = -(k : Int) := ⟨n.natAbs, by omega⟩
    have hk := dec_nat k (by omega)
    have q : IntKind.i64.wrap (0 - -(k : Int)) = (k : Int) := by rw [wrap_id (by omega) (by omega)]; omega
    have hk : PFun X 41 [vi (IntKind.i64.wrap (0 - -(k : Int)))] (vs (itoaB (k : Int))) := by rw [q]; exact hk
    have e1 : decide (-(k : Int) < 0) = true := decide_eq_true hn
    have hz := itoaB_len (k : Int) (by omega) (by omega)
    have hz2 : (B [45] ++ itoaB (k : Int)).size ≤ 9223372036854775807 := by
      rw [ByteArray.size_append]
      have : (B [45]).size = 1 := rfl
      omega
    rw [itoaB_neg (by omega)]
    refine pfun_of Tryd.func41 rfl (by decide) Tryd.ntmps41 Tryd.results41 (by simp) rfl rfl ?_
    repeat' first
      | refine Z1 ?_ | refine Z2 ?_ | refine Z3 ?_ | refine Z4 ?_ | refine Z5 ?_ | refine Z6 ?_ | refine Z7 ?_ | refine Z8 ?_ | refine Z9 ?_ | refine Za (fun hc => ?_) (fun hc => ?_) | refine Zb (fun hc => ?_) (fun hc => ?_)
      | refine Zc (hk) ?_ | refine Ul (a := B [45]) (b := itoaB (k : Int)) (hb := hz2) ?_ | refine Zd ?_ | refine Ze ?_ | refine Zf ?_ | refine Zg ?_ | refine Zh ?_ | refine Zi ?_ | refine Zj ?_ | refine Zk ?_ | refine Zl ?_ | refine Zm ?_
      | refine Zn (fun hc => ?_) (fun hc => ?_) | refine Zo ?_ | refine ok_seq ?_ | refine ok_reg ?_ | refine Zp ?_ | refine Zq ?_ | refine Zr (fun hc => ?_) (fun hc => ?_) | refine ok_block ?_ | refine ok_exit ?_ | refine ok_skip ?_
      | refine ok_ret ?_ | refine x_normal_then ?_ | refine x_exit_here ?_ | refine Zs ?_ | refine Zv ?_ | refine x_ret_then ?_ | refine x_ret_block ?_ | refine x_normal_block ?_ | refine Zt ?_ | refine Zu ?_
    rfl
  · obtain ⟨k, rfl⟩ : ∃ k : Nat, n = (k : Int) := ⟨n.toNat, by omega⟩
    exact dec_nat k h1
theorem flag_ok (v : Int) : PFun X 42 [vi v] (vs (boolT v)) := by
  refine pfun_of Tryd.func42 rfl (by decide) Tryd.ntmps42 Tryd.results42 (by simp) rfl rfl ?_
  by_cases h : v ≠ 0
  · have e : decide (v ≠ 0) = true := decide_eq_true h
    have hb : boolT v = B [116, 114, 117, 101] := if_pos h
    repeat' first
      | refine Z1 ?_ | refine Z2 ?_ | refine Z3 ?_ | refine Z4 ?_ | refine Z5 ?_ | refine Z6 ?_ | refine Z7 ?_ | refine Z8 ?_ | refine Z9 ?_ | refine Za (fun hc => ?_) (fun hc => ?_) | refine Zb (fun hc => ?_) (fun hc => ?_) | refine Zd ?_
      | refine Ze ?_ | refine Zf ?_ | refine Zg ?_ | refine Zh ?_ | refine Zi ?_ | refine Zj ?_ | refine Zk ?_ | refine Zl ?_ | refine Zm ?_ | refine Zn (fun hc => ?_) (fun hc => ?_) | refine Zo ?_ | refine ok_seq ?_ | refine ok_reg ?_
      | refine Zp ?_ | refine Zq ?_ | refine Zr (fun hc => ?_) (fun hc => ?_) | refine ok_block ?_ | refine ok_exit ?_ | refine ok_skip ?_ | refine ok_ret ?_ | refine x_normal_then ?_ | refine x_exit_here ?_ | refine Zs ?_ | refine Zv ?_
      | refine x_ret_then ?_ | refine x_ret_block ?_ | refine x_normal_block ?_ | refine Zt ?_ | refine Zu ?_
    rw [hb]; rfl
  · have e : decide (v ≠ 0) = false := decide_eq_false h
    have hb : boolT v = B [102, 97, 108, 115, 101] := if_neg h
    repeat' first
      | refine Z1 ?_ | refine Z2 ?_ | refine Z3 ?_ | refine Z4 ?_ | refine Z5 ?_ | refine Z6 ?_ | refine Z7 ?_ | refine Z8 ?_ | refine Z9 ?_ | refine Za (fun hc => ?_) (fun hc => ?_) | refine Zb (fun hc => ?_) (fun hc => ?_) | refine Zd ?_
      | refine Ze ?_ | refine Zf ?_ | refine Zg ?_ | refine Zh ?_ | refine Zi ?_ | refine Zj ?_ | refine Zk ?_ | refine Zl ?_ | refine Zm ?_ | refine Zn (fun hc => ?_) (fun hc => ?_) | refine Zo ?_ | refine ok_seq ?_ | refine ok_reg ?_
      | refine Zp ?_ | refine Zq ?_ | refine Zr (fun hc => ?_) (fun hc => ?_) | refine ok_block ?_ | refine ok_exit ?_ | refine ok_skip ?_ | refine ok_ret ?_ | refine x_normal_then ?_ | refine x_exit_here ?_ | refine Zs ?_ | refine Zv ?_
      | refine x_ret_then ?_ | refine x_ret_block ?_ | refine x_normal_block ?_ | refine Zt ?_ | refine Zu ?_
    rw [hb]; rfl
def opsT (k : Int) : List (ByteArray × Int) :=
  if k = 1 then [(B [111, 114], 18), (B [120, 111, 114], 19)] else if k = 2 then [(B [97, 110, 100], 17)]
  else if k = 3 then [(B [61], 11), (B [60, 62], 12), (B [60], 13), (B [60, 61], 14), (B [62], 15), (B [62, 61], 16)]
  else if k = 4 then [(B [43], 6), (B [45], 7)] else [(B [42], 8), (B [47], 9), (B [109, 111, 100], 10)]
theorem ops_ok (k : Int) : PFun X 72 [vi k] (.tup [.d (.im (((opsT k).map (·.1)).map eStr)), .d (.im (((opsT k).map (·.2)).map eNum))]) := by
  refine pfun_of Tryd.func72 rfl (by decide) Tryd.ntmps72 Tryd.results72 (by simp) rfl rfl ?_
  unfold opsT
  by_cases h1 : k = 1
  · have d1 : decide (k = 1) = true := decide_eq_true h1
    rw [if_pos h1]
    repeat' first
      | refine Z1 ?_ | refine Z2 ?_ | refine Z3 ?_ | refine Z4 ?_ | refine Z5 ?_ | refine Z6 ?_ | refine Z7 ?_ | refine Z8 ?_ | refine Z9 ?_ | refine Za (fun hc => ?_) (fun hc => ?_) | refine Zb (fun hc => ?_) (fun hc => ?_) | refine Zd ?_
      | refine Ze ?_ | refine Zf ?_ | refine Zg ?_ | refine Zh ?_ | refine Zi ?_ | refine Zj ?_ | refine Zk ?_ | refine Zl ?_ | refine Zm ?_ | refine Zn (fun hc => ?_) (fun hc => ?_) | refine ret2 ?_ | refine Zo ?_ | refine ok_seq ?_
      | refine ok_reg ?_ | refine Zp ?_ | refine Zq ?_ | refine Zr (fun hc => ?_) (fun hc => ?_) | refine ok_block ?_ | refine ok_exit ?_ | refine ok_skip ?_ | refine ok_ret ?_ | refine x_normal_then ?_ | refine x_exit_here ?_
      | refine Zs ?_ | refine Zv ?_ | refine x_ret_then ?_ | refine x_ret_block ?_ | refine x_normal_block ?_ | refine Zt ?_ | refine Zu ?_
    rfl
  have d1 : decide (k = 1) = false := decide_eq_false h1
  rw [if_neg h1]
  by_cases h2 : k = 2
  · have d2 : decide (k = 2) = true := decide_eq_true h2
    rw [if_pos h2]
    repeat' first
      | refine Z1 ?_ | refine Z2 ?_ | refine Z3 ?_ | refine Z4 ?_ | refine Z5 ?_ | refine Z6 ?_ | refine Z7 ?_ | refine Z8 ?_ | refine Z9 ?_ | refine Za (fun hc => ?_) (fun hc => ?_) | refine Zb (fun hc => ?_) (fun hc => ?_) | refine Zd ?_
      | refine Ze ?_ | refine Zf ?_ | refine Zg ?_ | refine Zh ?_ | refine Zi ?_ | refine Zj ?_ | refine Zk ?_ | refine Zl ?_ | refine Zm ?_ | refine Zn (fun hc => ?_) (fun hc => ?_) | refine ret2 ?_ | refine Zo ?_ | refine ok_seq ?_
      | refine ok_reg ?_ | refine Zp ?_ | refine Zq ?_ | refine Zr (fun hc => ?_) (fun hc => ?_) | refine ok_block ?_ | refine ok_exit ?_ | refine ok_skip ?_ | refine ok_ret ?_ | refine x_normal_then ?_ | refine x_exit_here ?_
      | refine Zs ?_ | refine Zv ?_ | refine x_ret_then ?_ | refine x_ret_block ?_ | refine x_normal_block ?_ | refine Zt ?_ | refine Zu ?_
    rfl
  have d2 : decide (k = 2) = false := decide_eq_false h2
  rw [if_neg h2]
  by_cases h3 : k = 3
  · have d3 : decide (k = 3) = true := decide_eq_true h3
    rw [if_pos h3]
    repeat' first
      | refine Z1 ?_ | refine Z2 ?_ | refine Z3 ?_ | refine Z4 ?_ | refine Z5 ?_ | refine Z6 ?_ | refine Z7 ?_ | refine Z8 ?_ | refine Z9 ?_ | refine Za (fun hc => ?_) (fun hc => ?_) | refine Zb (fun hc => ?_) (fun hc => ?_) | refine Zd ?_
      | refine Ze ?_ | refine Zf ?_ | refine Zg ?_ | refine Zh ?_ | refine Zi ?_ | refine Zj ?_ | refine Zk ?_ | refine Zl ?_ | refine Zm ?_ | refine Zn (fun hc => ?_) (fun hc => ?_) | refine ret2 ?_ | refine Zo ?_ | refine ok_seq ?_
      | refine ok_reg ?_ | refine Zp ?_ | refine Zq ?_ | refine Zr (fun hc => ?_) (fun hc => ?_) | refine ok_block ?_ | refine ok_exit ?_ | refine ok_skip ?_ | refine ok_ret ?_ | refine x_normal_then ?_ | refine x_exit_here ?_
      | refine Zs ?_ | refine Zv ?_ | refine x_ret_then ?_ | refine x_ret_block ?_ | refine x_normal_block ?_ | refine Zt ?_ | refine Zu ?_
    rfl
  have d3 : decide (k = 3) = false := decide_eq_false h3
  rw [if_neg h3]
  by_cases h4 : k = 4
  · have d4 : decide (k = 4) = true := decide_eq_true h4
    rw [if_pos h4]
    repeat' first
      | refine Z1 ?_ | refine Z2 ?_ | refine Z3 ?_ | refine Z4 ?_ | refine Z5 ?_ | refine Z6 ?_ | refine Z7 ?_ | refine Z8 ?_ | refine Z9 ?_ | refine Za (fun hc => ?_) (fun hc => ?_) | refine Zb (fun hc => ?_) (fun hc => ?_) | refine Zd ?_
      | refine Ze ?_ | refine Zf ?_ | refine Zg ?_ | refine Zh ?_ | refine Zi ?_ | refine Zj ?_ | refine Zk ?_ | refine Zl ?_ | refine Zm ?_ | refine Zn (fun hc => ?_) (fun hc => ?_) | refine ret2 ?_ | refine Zo ?_ | refine ok_seq ?_
      | refine ok_reg ?_ | refine Zp ?_ | refine Zq ?_ | refine Zr (fun hc => ?_) (fun hc => ?_) | refine ok_block ?_ | refine ok_exit ?_ | refine ok_skip ?_ | refine ok_ret ?_ | refine x_normal_then ?_ | refine x_exit_here ?_
      | refine Zs ?_ | refine Zv ?_ | refine x_ret_then ?_ | refine x_ret_block ?_ | refine x_normal_block ?_ | refine Zt ?_ | refine Zu ?_
    rfl
  have d4 : decide (k = 4) = false := decide_eq_false h4
  rw [if_neg h4]
  repeat' first
    | refine Z1 ?_ | refine Z2 ?_ | refine Z3 ?_ | refine Z4 ?_ | refine Z5 ?_ | refine Z6 ?_ | refine Z7 ?_ | refine Z8 ?_ | refine Z9 ?_ | refine Za (fun hc => ?_) (fun hc => ?_) | refine Zb (fun hc => ?_) (fun hc => ?_) | refine Zd ?_
    | refine Ze ?_ | refine Zf ?_ | refine Zg ?_ | refine Zh ?_ | refine Zi ?_ | refine Zj ?_ | refine Zk ?_ | refine Zl ?_ | refine Zm ?_ | refine Zn (fun hc => ?_) (fun hc => ?_) | refine ret2 ?_ | refine Zo ?_ | refine ok_seq ?_
    | refine ok_reg ?_ | refine Zp ?_ | refine Zq ?_ | refine Zr (fun hc => ?_) (fun hc => ?_) | refine ok_block ?_ | refine ok_exit ?_ | refine ok_skip ?_ | refine ok_ret ?_ | refine x_normal_then ?_ | refine x_exit_here ?_ | refine Zs ?_
    | refine Zv ?_ | refine x_ret_then ?_ | refine x_ret_block ?_ | refine x_normal_block ?_ | refine Zt ?_ | refine Zu ?_
  rfl
def signGo (op : Int) : List (ByteArray × Int) → Option ByteArray
  | [] => none
  | x :: l => if x.2 = op then some x.1 else signGo op l
def signF (op : Int) : Nat → Nat → ByteArray
  | 0, _ => B []
  | f + 1, k => match signGo op (opsT (k : Int)) with | some s => s | none => signF op f (k + 1)
theorem ops_len (k : Int) : (opsT k).length ≤ 6 := by
  unfold opsT
  repeat' split
  all_goals simp
theorem sign_ok (op : Int) : PFun X 44 [vi op] (vs (signF op 5 1)) := by
  refine pfun_of Tryd.func44 rfl (by decide) Tryd.ntmps44 Tryd.results44 (by simp) rfl rfl ?_
  repeat' first
    | refine Z1 ?_ | refine Z2 ?_ | refine Z3 ?_ | refine Z4 ?_ | refine Z5 ?_ | refine Z6 ?_ | refine Z7 ?_ | refine Z8 ?_ | refine Z9 ?_ | refine Za (fun hc => ?_) (fun hc => ?_) | refine Zb (fun hc => ?_) (fun hc => ?_) | refine Zd ?_
    | refine Ze ?_ | refine Zf ?_ | refine Zg ?_ | refine Zh ?_ | refine Zi ?_ | refine Zj ?_ | refine Zk ?_ | refine Zl ?_ | refine Zm ?_ | refine Zn (fun hc => ?_) (fun hc => ?_) | refine Zo ?_ | refine ok_seq ?_ | refine ok_reg ?_
    | refine Zp ?_ | refine Zq ?_ | refine Zr (fun hc => ?_) (fun hc => ?_) | refine ok_block ?_ | refine ok_exit ?_ | refine ok_skip ?_ | refine ok_ret ?_ | refine x_normal_then ?_ | refine x_exit_here ?_ | refine Zs ?_ | refine Zv ?_
    | refine x_ret_then ?_ | refine x_ret_block ?_ | refine x_normal_block ?_ | refine Zt ?_ | refine Zu ?_
  refine ok_for (ι := Nat) (fun x => envL [(0, vi op), (3, vi x)]) (fun x => stL []) (fun x => x ≤ 6 ∧ 1 ≤ x ∧ signF op (6 - x) x = signF op 5 1) (fun x => 6 - x) 1 (⟨by decide, by decide, rfl⟩) (weak_mk rfl ⟨.refl _, .refl _, trivial⟩ trivial) (fun _ => Nat.le_refl 0) ?_
  rintro k ⟨i1, i2, i3⟩
  by_cases h : k < 6
  rotate_left
  · have ek : decide ((k : Int) ≤ 5) = false := decide_eq_false (by omega)
    have : 6 - k = 0 := by omega
    rw [this] at i3
    repeat' first
      | refine Z1 ?_ | refine Z2 ?_ | refine Z3 ?_ | refine Z4 ?_ | refine Z5 ?_ | refine Z6 ?_ | refine Z7 ?_ | refine Z8 ?_ | refine Z9 ?_ | refine Za (fun hc => ?_) (fun hc => ?_) | refine Zb (fun hc => ?_) (fun hc => ?_) | refine Zd ?_
      | refine Ze ?_ | refine Zf ?_ | refine Zg ?_ | refine Zh ?_ | refine Zi ?_ | refine Zj ?_ | refine Zk ?_ | refine Zl ?_ | refine Zm ?_ | refine Zn (fun hc => ?_) (fun hc => ?_) | refine Zo ?_ | refine ok_seq ?_ | refine ok_reg ?_
      | refine Zp ?_ | refine Zq ?_ | refine Zr (fun hc => ?_) (fun hc => ?_) | refine ok_block ?_ | refine ok_exit ?_ | refine ok_skip ?_ | refine ok_ret ?_ | refine x_normal_then ?_ | refine x_exit_here ?_ | refine Zs ?_ | refine Zv ?_
      | refine x_ret_then ?_ | refine x_ret_block ?_ | refine x_normal_block ?_ | refine Zt ?_ | refine Zu ?_
    exact congrArg (fun v => AEnd.ret (vs v)) i3
  have ek : decide ((k : Int) ≤ 5) = true := decide_eq_true (by omega)
  have e6 : 6 - k = (6 - (k + 1)) + 1 := by omega
  rw [e6] at i3
  simp only [signF] at i3
  have hol := ops_len (k : Int)
  have ho := ops_ok (k : Int)
  generalize hL : opsT (k : Int) = L at i3 hol ho
  repeat' first
    | refine Z1 ?_ | refine Z2 ?_ | refine Z3 ?_ | refine Z4 ?_ | refine Z5 ?_ | refine Z6 ?_ | refine Z7 ?_ | refine Z8 ?_ | refine Z9 ?_ | refine Za (fun hc => ?_) (fun hc => ?_) | refine Zb (fun hc => ?_) (fun hc => ?_)
    | refine Zc (ho) ?_ | refine Zd ?_ | refine Ze ?_ | refine Zf ?_ | refine Zg ?_ | refine Zh ?_ | refine Zi ?_ | refine Zj ?_ | refine Zk ?_ | refine Zl ?_ | refine Zm ?_ | refine Zn (fun hc => ?_) (fun hc => ?_) | refine Zo ?_
    | refine ok_seq ?_ | refine ok_reg ?_ | refine Zp ?_ | refine Zq ?_ | refine Zr (fun hc => ?_) (fun hc => ?_) | refine ok_block ?_ | refine ok_exit ?_ | refine ok_skip ?_ | refine ok_ret ?_ | refine x_normal_then ?_
    | refine x_exit_here ?_ | refine Zs ?_ | refine Zv ?_ | refine x_ret_then ?_ | refine x_ret_block ?_ | refine x_normal_block ?_ | refine Zt ?_ | refine Zu ?_
  refine ok_for (ι := Nat) (fun x => envL [(0, vi op), (3, vi k), (4, .d (.im ((L.map (·.1)).map eStr))), (5, .d (.im ((L.map (·.2)).map eNum))), (16, .d (.im ((L.map (·.2)).map eNum))), (17, vi (L.map (·.2)).length), (18, vi x)]) (fun x => stL []) (fun x => x ≤ L.length ∧ signGo op (L.drop x) = signGo op L) (fun x => L.length - x) 0 (⟨Nat.zero_le _, rfl⟩) (weak_mk rfl ⟨.refl _, .refl _, .refl _, .refl _, .refl _, .refl _, .refl _, trivial⟩ trivial) (fun _ => Nat.le_refl 0) ?_
  rintro q ⟨j1, j2⟩
  have hml : (L.map (·.2)).length = L.length := by simp
  rcases hx : L[q]? with _ | x
  · have hle := none_le hx
    have eq : decide ((q : Int) < ((L.map (·.2)).length : Int)) = false := decide_eq_false (by omega)
    rw [drop_none hx] at j2
    rw [← j2] at i3
    simp only [signGo] at i3
    repeat' first
      | refine Z1 ?_ | refine Z2 ?_ | refine Z3 ?_ | refine Z4 ?_ | refine Z5 ?_ | refine Z6 ?_ | refine Z7 ?_ | refine Z8 ?_ | refine Z9 ?_ | refine Za (fun hc => ?_) (fun hc => ?_) | refine Zb (fun hc => ?_) (fun hc => ?_) | refine Zd ?_
      | refine Ze ?_ | refine Zf ?_ | refine Zg ?_ | refine Zh ?_ | refine Zi ?_ | refine Zj ?_ | refine Zk ?_ | refine Zl ?_ | refine Zm ?_ | refine Zn (fun hc => ?_) (fun hc => ?_) | refine Zo ?_ | refine ok_seq ?_ | refine ok_reg ?_
      | refine Zp ?_ | refine Zq ?_ | refine Zr (fun hc => ?_) (fun hc => ?_) | refine ok_block ?_ | refine ok_exit ?_ | refine ok_skip ?_ | refine ok_ret ?_ | refine x_normal_then ?_ | refine x_exit_here ?_ | refine Zs ?_ | refine Zv ?_
      | refine x_ret_then ?_ | refine x_ret_block ?_ | refine x_normal_block ?_ | refine Zt ?_ | refine Zu ?_
    exact ⟨k + 1, ⟨by omega, by omega, i3⟩, by (try simp only); omega, low_mk (Nat.zero_le _) ⟨⟨rfl, rfl⟩, ⟨rfl, rfl⟩, trivial⟩ trivial⟩
  obtain ⟨hd, hlt⟩ := drop_some hx
  have eq : decide ((q : Int) < ((L.map (·.2)).length : Int)) = true := decide_eq_true (by omega)
  rw [hd] at j2
  simp only [signGo] at j2
  have x1 : (L.map (·.1))[q]? = some x.1 := by rw [List.getElem?_map, hx]; rfl
  have x2 : (L.map (·.2))[q]? = some x.2 := by rw [List.getElem?_map, hx]; rfl
  by_cases he : x.2 = op
  · have e1 : decide (x.2 = op) = true := decide_eq_true he
    rw [if_pos he] at j2
    rw [← j2] at i3
    repeat' first
      | refine Z1 ?_ | refine Z2 ?_ | refine Z3 ?_ | refine Z4 ?_ | refine Z5 ?_ | refine Z6 ?_ | refine Z7 ?_ | refine Z8 ?_ | refine Z9 ?_ | refine Za (fun hc => ?_) (fun hc => ?_) | refine Zb (fun hc => ?_) (fun hc => ?_)
      | refine Yej (e := eNum) (n := (q : Int)) q rfl x2 ?_ | refine Yej (e := eStr) (n := (q : Int)) q rfl x1 ?_ | refine Zd ?_ | refine Ze ?_ | refine Zf ?_ | refine Zg ?_ | refine Zh ?_ | refine Zi ?_ | refine Zj ?_ | refine Zk ?_
      | refine Zl ?_ | refine Zm ?_ | refine Zn (fun hc => ?_) (fun hc => ?_) | refine Zo ?_ | refine ok_seq ?_ | refine ok_reg ?_ | refine Zp ?_ | refine Zq ?_ | refine Zr (fun hc => ?_) (fun hc => ?_) | refine ok_block ?_
      | refine ok_exit ?_ | refine ok_skip ?_ | refine ok_ret ?_ | refine x_normal_then ?_ | refine x_exit_here ?_ | refine Zs ?_ | refine Zv ?_ | refine x_ret_then ?_ | refine x_ret_block ?_ | refine x_normal_block ?_ | refine Zt ?_
      | refine Zu ?_
    exact congrArg (fun v => AEnd.ret (vs v)) i3
  · have e1 : decide (x.2 = op) = false := decide_eq_false he
    rw [if_neg he] at j2
    repeat' first
      | refine Z1 ?_ | refine Z2 ?_ | refine Z3 ?_ | refine Z4 ?_ | refine Z5 ?_ | refine Z6 ?_ | refine Z7 ?_ | refine Z8 ?_ | refine Z9 ?_ | refine Za (fun hc => ?_) (fun hc => ?_) | refine Zb (fun hc => ?_) (fun hc => ?_)
      | refine Yej (e := eNum) (n := (q : Int)) q rfl x2 ?_ | refine Zd ?_ | refine Ze ?_ | refine Zf ?_ | refine Zg ?_ | refine Zh ?_ | refine Zi ?_ | refine Zj ?_ | refine Zk ?_ | refine Zl ?_ | refine Zm ?_
      | refine Zn (fun hc => ?_) (fun hc => ?_) | refine Zo ?_ | refine ok_seq ?_ | refine ok_reg ?_ | refine Zp ?_ | refine Zq ?_ | refine Zr (fun hc => ?_) (fun hc => ?_) | refine ok_block ?_ | refine ok_exit ?_ | refine ok_skip ?_
      | refine ok_ret ?_ | refine x_normal_then ?_ | refine x_exit_here ?_ | refine Zs ?_ | refine Zv ?_ | refine x_ret_then ?_ | refine x_ret_block ?_ | refine x_normal_block ?_ | refine Zt ?_ | refine Zu ?_
    exact ⟨q + 1, ⟨hlt, j2⟩, by (try simp only); omega, low_mk (Nat.zero_le _) ⟨⟨rfl, rfl⟩, ⟨rfl, rfl⟩, ⟨rfl, rfl⟩, ⟨rfl, rfl⟩, ⟨rfl, rfl⟩, ⟨rfl, rfl⟩, ⟨rfl, rfl⟩, trivial⟩ trivial⟩
end Go.Pm
/- The specification's join; strings.Join. -/
set_option linter.unusedVariables false
set_option linter.unusedSimpArgs false
namespace Go.Pm
attribute [local irreducible] AR Ok inBlock andThen endQ aoper
set_option maxHeartbeats 4000000
open Go.Proofs
theorem join_ok (sep : ByteArray) (l : List ByteArray) (hl : l.length ≤ 1048576) (hs : (joinT sep 0 l).size ≤ 140737488355328) : PFun X 14 [.d (.im (l.map eStr)), vs sep] (vs (joinT sep 0 l)) := by
  refine pfun_of Tryd.func14 rfl (by decide) Tryd.ntmps14 Tryd.results14 (by simp) rfl rfl ?_
  generalize hfull : joinT sep 0 l = full at hs
  repeat' first
    | refine Z1 ?_ | refine Z2 ?_ | refine Z3 ?_ | refine Z4 ?_ | refine Z5 ?_ | refine Z6 ?_ | refine Z7 ?_ | refine Z8 ?_ | refine Z9 ?_ | refine Za (fun hc => ?_) (fun hc => ?_) | refine Zb (fun hc => ?_) (fun hc => ?_) | refine Zd ?_
    | refine Ze ?_ | refine Zf ?_ | refine Zg ?_ | refine Zh ?_ | refine Zi ?_ | refine Zj ?_ | refine Zk ?_ | refine Zl ?_ | refine Zm ?_ | refine Zn (fun hc => ?_) (fun hc => ?_) | refine Zo ?_ | refine ok_seq ?_ | refine ok_reg ?_
    | refine Zp ?_ | refine Zq ?_ | refine Zr (fun hc => ?_) (fun hc => ?_) | refine ok_block ?_ | refine ok_exit ?_ | refine ok_skip ?_ | refine ok_ret ?_ | refine x_normal_then ?_ | refine x_exit_here ?_ | refine Zs ?_ | refine Zv ?_
    | refine x_ret_then ?_ | refine x_ret_block ?_ | refine x_normal_block ?_ | refine Zt ?_ | refine Zu ?_
  refine ok_for (ι := Nat × ByteArray) (fun x_ => envL [(1, vs sep), (5, vs x_.2), (8, .d (.im (l.map eStr))), (9, vi l.length), (10, vi x_.1)]) (fun x_ => stL []) (fun x_ => x_.1 ≤ l.length ∧ x_.2 ++ joinT sep x_.1 (l.drop x_.1) = full) (fun x_ => l.length - x_.1) (0, B []) (⟨Nat.zero_le _, by rw [nil_ba]; exact hfull⟩) (weak_mk rfl ⟨.refl _, .refl _, .refl _, .refl _, .refl _, trivial⟩ trivial) (fun _ => Nat.le_refl 0) ?_
  rintro ⟨k, u⟩ ⟨i1, i2⟩
  simp only at i1 i2
  rcases hx : l[k]? with _ | x
  · have hle := none_le hx
    have ek : decide ((k : Int) < (l.length : Int)) = false := decide_eq_false (by omega)
    rw [drop_none hx] at i2
    simp only [joinT, ba_nil] at i2
    repeat' first
      | refine Z1 ?_ | refine Z2 ?_ | refine Z3 ?_ | refine Z4 ?_ | refine Z5 ?_ | refine Z6 ?_ | refine Z7 ?_ | refine Z8 ?_ | refine Z9 ?_ | refine Za (fun hc => ?_) (fun hc => ?_) | refine Zb (fun hc => ?_) (fun hc => ?_) | refine Zd ?_
      | refine Ze ?_ | refine Zf ?_ | refine Zg ?_ | refine Zh ?_ | refine Zi ?_ | refine Zj ?_ | refine Zk ?_ | refine Zl ?_ | refine Zm ?_ | refine Zn (fun hc => ?_) (fun hc => ?_) | refine Zo ?_ | refine ok_seq ?_ | refine ok_reg ?_
      | refine Zp ?_ | refine Zq ?_ | refine Zr (fun hc => ?_) (fun hc => ?_) | refine ok_block ?_ | refine ok_exit ?_ | refine ok_skip ?_ | refine ok_ret ?_ | refine x_normal_then ?_ | refine x_exit_here ?_ | refine Zs ?_ | refine Zv ?_
      | refine x_ret_then ?_ | refine x_ret_block ?_ | refine x_normal_block ?_ | refine Zt ?_ | refine Zu ?_
    exact congrArg (fun v => AEnd.ret (vs v)) i2
  obtain ⟨hd, hlt⟩ := drop_some hx
  have ek : decide ((k : Int) < (l.length : Int)) = true := decide_eq_true (by omega)
  rw [hd] at i2
  simp only [joinT] at i2
  by_cases h0 : 0 < k
  · have e0 : decide ((k : Int) > 0) = true := decide_eq_true (by omega)
    have e0' : decide (0 < (k : Int)) = true := decide_eq_true (by omega)
    rw [if_pos h0] at i2
    have z1 := sz_of i2 hs
    have i2 := nx_of i2
    have z2 := sz_of i2 hs
    have i2 := nx_of i2
    repeat' first
      | refine Z1 ?_ | refine Z2 ?_ | refine Z3 ?_ | refine Z4 ?_ | refine Z5 ?_ | refine Z6 ?_ | refine Z7 ?_ | refine Z8 ?_ | refine Z9 ?_ | refine Za (fun hc => ?_) (fun hc => ?_) | refine Zb (fun hc => ?_) (fun hc => ?_)
      | refine Ul (a := u) (b := sep) (hb := by omega) ?_ | refine Ul (a := u ++ sep) (b := x) (hb := by omega) ?_ | refine Zd ?_ | refine Ze ?_ | refine Zf ?_ | refine Zg ?_ | refine Zh ?_ | refine Zi ?_ | refine Zj ?_ | refine Zk ?_
      | refine Zl ?_ | refine Zm ?_ | refine Zn (fun hc => ?_) (fun hc => ?_) | refine Zo ?_ | refine ok_seq ?_ | refine ok_reg ?_ | refine Zp ?_ | refine Zq ?_ | refine Zr (fun hc => ?_) (fun hc => ?_) | refine ok_block ?_
      | refine ok_exit ?_ | refine ok_skip ?_ | refine ok_ret ?_ | refine x_normal_then ?_ | refine x_exit_here ?_ | refine Zs ?_ | refine Zv ?_ | refine x_ret_then ?_ | refine x_ret_block ?_ | refine x_normal_block ?_ | refine Zt ?_
      | refine Zu ?_
    exact ⟨(k + 1, u ++ sep ++ x), ⟨hlt, i2⟩, by (try simp only); omega, low_mk (Nat.zero_le _) ⟨⟨rfl, rfl⟩, ⟨rfl, rfl⟩, ⟨rfl, rfl⟩, ⟨rfl, rfl⟩, ⟨rfl, rfl⟩, trivial⟩ trivial⟩
  · have e0 : decide ((k : Int) > 0) = false := decide_eq_false (by omega)
    have e0' : decide (0 < (k : Int)) = false := decide_eq_false (by omega)
    rw [if_neg h0, nil_ba] at i2
    have z1 := sz_of i2 hs
    have i2 := nx_of i2
    repeat' first
      | refine Z1 ?_ | refine Z2 ?_ | refine Z3 ?_ | refine Z4 ?_ | refine Z5 ?_ | refine Z6 ?_ | refine Z7 ?_ | refine Z8 ?_ | refine Z9 ?_ | refine Za (fun hc => ?_) (fun hc => ?_) | refine Zb (fun hc => ?_) (fun hc => ?_)
      | refine Ul (a := u) (b := x) (hb := by omega) ?_ | refine Zd ?_ | refine Ze ?_ | refine Zf ?_ | refine Zg ?_ | refine Zh ?_ | refine Zi ?_ | refine Zj ?_ | refine Zk ?_ | refine Zl ?_ | refine Zm ?_
      | refine Zn (fun hc => ?_) (fun hc => ?_) | refine Zo ?_ | refine ok_seq ?_ | refine ok_reg ?_ | refine Zp ?_ | refine Zq ?_ | refine Zr (fun hc => ?_) (fun hc => ?_) | refine ok_block ?_ | refine ok_exit ?_ | refine ok_skip ?_
      | refine ok_ret ?_ | refine x_normal_then ?_ | refine x_exit_here ?_ | refine Zs ?_ | refine Zv ?_ | refine x_ret_then ?_ | refine x_ret_block ?_ | refine x_normal_block ?_ | refine Zt ?_ | refine Zu ?_
    exact ⟨(k + 1, u ++ x), ⟨hlt, i2⟩, by (try simp only); omega, low_mk (Nat.zero_le _) ⟨⟨rfl, rfl⟩, ⟨rfl, rfl⟩, ⟨rfl, rfl⟩, ⟨rfl, rfl⟩, ⟨rfl, rfl⟩, trivial⟩ trivial⟩
theorem joinTail_eq (sep : ByteArray) : ∀ (l : List ByteArray) (i : Nat), (⟨(Lib.joinTail sep.data.toList (l.map (·.data.toList))).toArray⟩ : ByteArray) = joinT sep (i + 1) l
  | [], _ => rfl
  | x :: l, i => by
    have ih := joinTail_eq sep l (i + 1)
    simp only [joinT]
    rw [if_pos (Nat.succ_pos i), ← ih]
    apply ByteArray.ext
    simp [Lib.joinTail, ByteArray.data_append]
theorem join_eq (sep : ByteArray) {l : List ByteArray} (hne : l ≠ []) : (⟨(Lib.join (l.map (·.data.toList)) sep.data.toList).toArray⟩ : ByteArray) = joinT sep 0 l := by
  cases l with
  | nil => exact absurd rfl hne
  | cons x l =>
    rw [List.map_cons, Lib.join_cons]
    simp only [joinT]
    rw [if_neg (Nat.lt_irrefl 0), nil_ba, ← joinTail_eq sep l 0]
    apply ByteArray.ext
    simp [ByteArray.data_append]
theorem sjoin_ok (sep : ByteArray) (l : List ByteArray) (hne : l ≠ []) (hl : l.length ≤ 1048576) (hs : (joinT sep 0 l).size ≤ 140737488355328) : PFun X 21 [.d (.im (l.map eStr)), vs sep] (vs (joinT sep 0 l)) := by
  have e := join_eq sep hne
  have hlen : (Lib.join (l.map (·.data.toList)) sep.data.toList).length ≤ 281474976710656 := by
    have := congrArg ByteArray.size e
    have h2 : (⟨(Lib.join (l.map (·.data.toList)) sep.data.toList).toArray⟩ : ByteArray).size = (Lib.join (l.map (·.data.toList)) sep.data.toList).length := by show Array.size _ = _; simp
    omega
  rw [← e]
  exact PFun.ext_strs hne ⟨_, Tryd.func21, by kernel_rfl, by kernel_rfl⟩ fun w bk o c h1 h2 h3 => join_calls bk o c l sep w h1 h2 (by omega) h3 hlen
end Go.Pm
/- The program's text of a tree. -/
set_option linter.unusedVariables false
set_option linter.unusedSimpArgs false
namespace Go.Pm
attribute [local irreducible] AR Ok inBlock andThen endQ aoper
set_option maxHeartbeats 8000000
open Go.Proofs
theorem afind_ot (n : Int) : ∀ l : List (Int × ByteArray), afind ((l.map fun y => (Value.int .i64 y.1, D.s (.string y.2))).map fun e => (e.1, AV.d e.2)) (.int .i64 n) = (l.find? fun y => decide (y.1 = n)).map fun y => vs y.2
  | [] => rfl
  | y :: l => by
    simp only [List.map_cons, afind, keyEq, List.find?_cons]
    by_cases h : y.1 = n
    · simp [h]
    · have h' : ¬ n = y.1 := fun e => h e.symm
      simp only [h, h', decide_false, Bool.false_eq_true, if_false]
      exact afind_ot n l
section
variable {nt : Nat} {Q : Exit → Env → St → Prop} {env : Env} {σ : St} {K : AV → St → Prop}
theorem Uk {n : Int} {m k : Operand} {t kt et : TypeId} {ti tk te : TI} (h : K (vs (otFind n)) σ) (hm : aev X env m = .d (.mp (.int .i64) otMap) := by exact rfl) (hk : aev X env k = vi n := by exact rfl) (h1 : X.T t = some ti := by exact rfl) (h2 : ti.kind = .map kt et := by exact rfl) (h3 : X.T kt = some tk := by exact rfl) (h4 : X.T et = some te := by exact rfl)
    (h5 : tk.kind = .int .i64 := by exact rfl) (h6 : azero te = .d (.s (.string ⟨#[]⟩)) := by exact rfl) : aoper X (.lookup t m k false) env σ Q K := by
  simp only [aoper, aop, alookup]
  rw [hm, hk]
  refine ⟨ti, h1, kt, et, h2, tk, te, h3, h4, .int .i64 n, rfl, by rw [h5]; rfl, by rw [h5]; rfl, otMap.map fun e => (e.1, AV.d e.2), rfl, ?_⟩
  simp only [Bool.false_eq_true, if_false]
  have := afind_ot n otS
  unfold otMap
  rw [this, h6]
  have e2 : ((otS.find? fun y => decide (y.1 = n)).map fun y => vs y.2).getD (.d (.s (.string ⟨#[]⟩))) = vs (otFind n) := by
    unfold otFind
    cases otS.find? fun y => decide (y.1 = n) <;> rfl
  rw [e2]
  exact h
end
theorem boolt_ok (v : Int) : PFun X 52 [vi v] (vs (boolT v)) := by
  refine pfun_of Tryd.func52 rfl (by decide) Tryd.ntmps52 Tryd.results52 (by simp) rfl rfl ?_
  by_cases h : v ≠ 0
  · have e : decide (v ≠ 0) = true := decide_eq_true h
    have hb : boolT v = B [116, 114, 117, 101] := if_pos h
    repeat' first
      | refine Z1 ?_ | refine Z2 ?_ | refine Z3 ?_ | refine Z4 ?_ | refine Z5 ?_ | refine Z6 ?_ | refine Z7 ?_ | refine Z8 ?_ | refine Z9 ?_ | refine Za (fun hc => ?_) (fun hc => ?_) | refine Zb (fun hc => ?_) (fun hc => ?_) | refine Zd ?_
      | refine Ze ?_ | refine Zf ?_ | refine Zg ?_ | refine Zh ?_ | refine Zi ?_ | refine Zj ?_ | refine Zk ?_ | refine Zl ?_ | refine Zm ?_ | refine Zn (fun hc => ?_) (fun hc => ?_) | refine Zo ?_ | refine ok_seq ?_ | refine ok_reg ?_
      | refine Zp ?_ | refine Zq ?_ | refine Zr (fun hc => ?_) (fun hc => ?_) | refine ok_block ?_ | refine ok_exit ?_ | refine ok_skip ?_ | refine ok_ret ?_ | refine x_normal_then ?_ | refine x_exit_here ?_ | refine Zs ?_ | refine Zv ?_
      | refine x_ret_then ?_ | refine x_ret_block ?_ | refine x_normal_block ?_ | refine Zt ?_ | refine Zu ?_
    rw [hb]; rfl
  · have e : decide (v ≠ 0) = false := decide_eq_false h
    have hb : boolT v = B [102, 97, 108, 115, 101] := if_neg h
    repeat' first
      | refine Z1 ?_ | refine Z2 ?_ | refine Z3 ?_ | refine Z4 ?_ | refine Z5 ?_ | refine Z6 ?_ | refine Z7 ?_ | refine Z8 ?_ | refine Z9 ?_ | refine Za (fun hc => ?_) (fun hc => ?_) | refine Zb (fun hc => ?_) (fun hc => ?_) | refine Zd ?_
      | refine Ze ?_ | refine Zf ?_ | refine Zg ?_ | refine Zh ?_ | refine Zi ?_ | refine Zj ?_ | refine Zk ?_ | refine Zl ?_ | refine Zm ?_ | refine Zn (fun hc => ?_) (fun hc => ?_) | refine Zo ?_ | refine ok_seq ?_ | refine ok_reg ?_
      | refine Zp ?_ | refine Zq ?_ | refine Zr (fun hc => ?_) (fun hc => ?_) | refine ok_block ?_ | refine ok_exit ?_ | refine ok_skip ?_ | refine ok_ret ?_ | refine x_normal_then ?_ | refine x_exit_here ?_ | refine Zs ?_ | refine Zv ?_
      | refine x_ret_then ?_ | refine x_ret_block ?_ | refine x_normal_block ?_ | refine Zt ?_ | refine Zu ?_
    rw [hb]; rfl
/-- The end of a call that wrote. -/
def bdEnd (s : ByteArray) (E : AEnd) (σ1 : St) : Prop := ∃ p : Nat, E = .ret (.tup []) ∧ σ1.obj 0 = some (.var [.ref 0 0, .sl 1 (3 + p) 0 s.size]) ∧ σ1.obj 1 = some (.row (3 + p) 5 1 (byteRows s))
theorem bd_norm {f : FuncId} {args : List AV} {u s : ByteArray} (h : AFun X f args (stL (bdO 5 2 u ++ [none])) (bdEnd s)) :
    AFun X f args (stL (bdO 5 2 u ++ [none])) fun E σ' => E = .ret (.tup []) ∧ σ' = stL (bdO 5 3 s ++ [none, none]) := by
  refine h.lowR ?_
  rintro E σ1 ⟨p, rfl, h0, h1⟩
  have obs : ∀ j o, (stL (bdO 5 3 s ++ [none, none])).obj j = some o → (j = 0 ∧ o = .var [.ref 0 0, .sl 1 3 0 s.size]) ∨ (j = 1 ∧ o = .row 3 5 1 (byteRows s)) := by
    intro j o h
    match j, h with
    | 0, h => exact .inl ⟨rfl, (Option.some.inj h).symm⟩
    | 1, h => exact .inr ⟨rfl, (Option.some.inj h).symm⟩
    | 2, h => cases h
    | 3, h => cases h
    | j + 4, h => simp [stL, bdO] at h
  refine ⟨_, fun j => if j = 3 then 3 + p else j, .tup [], ⟨rfl, rfl⟩, ⟨fun j hj => ?_, by show 3 ≤ 4; omega, fun j o hj => ?_, fun j k o o' hj hk e => ?_, fun _ => .inl rfl⟩, rfl, rfl⟩
  · have : j < 3 := hj
    show (if j = 3 then 3 + p else j) = j
    rw [if_neg (by omega)]
  · rcases obs j o hj with ⟨rfl, rfl⟩ | ⟨rfl, rfl⟩
    · exact ⟨by show 0 < 4; omega, h0, rfl⟩
    · refine ⟨by show 1 < 4; omega, ?_, ⟨by show 3 < 4; omega, byteRows_low s 4⟩⟩
      show σ1.obj 1 = some (.row (3 + p) 5 1 ((byteRows s).map _))
      rw [byteRows_ren]; exact h1
  · rcases obs j o hj with ⟨rfl, _⟩ | ⟨rfl, _⟩ <;> rcases obs k o' hk with ⟨rfl, _⟩ | ⟨rfl, _⟩ <;> first | rfl | (simp at e)
theorem flat_kid {x : Itm} {i : Nat} {k : Tm} : ∀ {ks : List Tm}, k ∈ ks → (flat k).length < (flat (.mk x i ks)).length := by
  intro ks hk
  simp only [flat, List.length_append, List.length_singleton]
  induction ks with
  | nil => simp at hk
  | cons t ts ih =>
    simp only [flatL, List.length_append]
    rcases List.mem_cons.1 hk with rfl | h
    · omega
    · have := ih h; omega
theorem sz_end {u a full : ByteArray} {M : Nat} (h : u ++ a = full) (hf : full.size ≤ M) : (u ++ a).size ≤ M := by rw [h]; exact hf
/-- What is owed of a tree: its text is put behind what stands. -/
def Prt (t : Tm) : Prop := ∀ {σ : St} {i r h : Nat} {u : ByteArray}, σ.obj i = some (.var [.ref i 0, .sl r h 0 u.size]) → σ.obj r = some (.row h 5 1 (byteRows u)) → (u ++ textT t).size ≤ 140737488355328 →
  AFun X 23 [.d (.ip (eTm t) 0), .ref i 0] σ fun E σ' => E = .ret (.tup []) ∧ σ' = wrUsed σ i r (u ++ textT t)
theorem prt_of {t : Tm} (h : ∀ u : ByteArray, (u ++ textT t).size ≤ 140737488355328 → AFun X 23 [.d (.ip (eTm t) 0), .ref 0 0] (stL (bdO 5 2 u ++ [none])) (bdEnd (u ++ textT t))) : Prt t := fun ho hr hs =>
  bd_lift (bd_norm (h _ hs)) ho hr rfl rfl
end Go.Pm
