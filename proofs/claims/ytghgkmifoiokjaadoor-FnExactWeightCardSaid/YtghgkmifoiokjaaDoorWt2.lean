/- Weights: the program's weights. -/
import Derived.Test.YtghgkmifoiokjaaDoorWt1
set_option linter.unusedVariables false
set_option linter.unusedSimpArgs false
namespace Go.Pm
attribute [local irreducible] AR Ok inBlock andThen endQ aoper
set_option maxHeartbeats 1000000
open Go.Proofs
theorem eInt_one (y : Int) : ∀ c ∈ eInt y, AV.one (.d c) = true := by intro c hc; simp [eInt] at hc; subst hc; rfl
def fidx : List Nod → ByteArray → Option Nat
  | [], _ => none
  | x :: l, s => if x.name = s then some 0 else (fidx l s).map (· + 1)
theorem fidx_push (x : Nod) (s : ByteArray) : ∀ l : List Nod, fidx (l ++ [x]) s = match fidx l s with | some j => some j | none => if x.name = s then some l.length else none
  | [] => by simp [fidx]
  | y :: l => by
    have ih := fidx_push x s l
    simp only [List.cons_append, fidx, ih, List.length_cons]
    by_cases h : y.name = s
    · simp [h]
    · simp only [h, if_false]
      cases fidx l s with
      | some j => rfl
      | none => simp only [Option.map_none]; split <;> simp
theorem fidx_lt {s : ByteArray} : ∀ {l : List Nod} {j : Nat}, fidx l s = some j → j < l.length
  | [], j, h => by simp [fidx] at h
  | y :: l, j, h => by
    simp only [fidx] at h
    split at h
    · cases h; simp
    · obtain ⟨i, hi, rfl⟩ := Option.map_eq_some_iff.1 h
      have := fidx_lt hi
      simp; omega
def cW (pre : List Nod) (ws : List Int) (c : ByteArray) : Int := if c = ⟨#[]⟩ then 0 else match fidx pre c with | some j => ws.getD j 0 | none => 0
def eqW (pre : List Nod) (ws : List Int) (e : Eqn) : Int := ((1 + (e.code.length : Int)) + 2 * (innerI e : Int)) + (lens e.args : Int) + cW pre ws e.call
def sumW (pre : List Nod) (ws : List Int) : List Eqn → Int
  | [] => 0
  | e :: l => eqW pre ws e + sumW pre ws l
def nodW (pre : List Nod) (ws : List Int) (x : Nod) : Int := min (1 + sumW pre ws x.eqs) 20001
def wsGo : List Nod → List Int → List Nod → List Int
  | _, ws, [] => ws
  | pre, ws, x :: r => wsGo (pre ++ [x]) (ws ++ [nodW pre ws x]) r
def wsI (p : List Nod) : List Int := wsGo [] [] p
def wB (ws : List Int) : Prop := ∀ x ∈ ws, 0 ≤ x ∧ x ≤ 20001
theorem cW_le {pre : List Nod} {ws : List Int} (h : wB ws) (c : ByteArray) : 0 ≤ cW pre ws c ∧ cW pre ws c ≤ 20001 := by
  unfold cW
  split
  · omega
  · split
    · rename_i j _
      rw [List.getD_eq_getElem?_getD]
      cases hj : ws[j]? with
      | none => simp
      | some v => exact h v (List.mem_of_getElem? hj)
    · omega
theorem sumW_nn {pre : List Nod} {ws : List Int} (h : wB ws) : ∀ l : List Eqn, 0 ≤ sumW pre ws l
  | [] => Int.le_refl _
  | e :: l => by have := sumW_nn (pre := pre) h l; have := (cW_le (pre := pre) h e.call).1; simp only [sumW, eqW]; omega
theorem wsGo_length : ∀ (r pre : List Nod) (ws : List Int), (wsGo pre ws r).length = ws.length + r.length
  | [], _, ws => by simp [wsGo]
  | x :: r, pre, ws => by rw [wsGo, wsGo_length r]; simp; omega
theorem wsI_length (p : List Nod) : (wsI p).length = p.length := by simp [wsI, wsGo_length]
theorem take_push {α : Type} {l : List α} {k : Nat} {x : α} (h : l[k]? = some x) : l.take (k + 1) = l.take k ++ [x] := by rw [List.take_add_one, h]; rfl
set_option maxHeartbeats 4000000 in
theorem weights_ok (p : List Nod) (hw : wL wNod p ≤ 1048576) : PFun X 21 [.agg [.d (.im (p.map eNod))]] (.d (.im ((wsI p).map eInt))) := by
  have hpl : p.length ≤ 1048576 := by simp only [wL] at hw; omega
  have hpl2 : p.length ≤ 4294967296 := by omega
  have hnt : (!true) = false := rfl
  have hnf : (!false) = true := rfl
  refine pfun_of Tryd.func21 rfl (by decide) Tryd.ntmps21 Tryd.results21 (by simp) rfl rfl ?_
  repeat' first
    | refine Z1 ?_ | refine Z2 ?_ | refine Z3 ?_ | refine Z4 ?_ | refine Z5 ?_ | refine Z6 ?_ | refine Z7 ?_ | refine Z8 ?_ | refine Z9 ?_ | refine Za (fun hc => ?_) (fun hc => ?_) | refine Zb (fun hc => ?_) (fun hc => ?_)
    | refine Yj hpl2 ?_ | refine Yd ?_ | refine Zd ?_ | refine Ze ?_ | refine Zf ?_ | refine Zg ?_ | refine Zh ?_ | refine Zi ?_ | refine Zj ?_ | refine Zk ?_ | refine Zl ?_ | refine Zm ?_ | refine Zn (fun hc => ?_) (fun hc => ?_)
    | refine Zo ?_ | refine ok_seq ?_ | refine ok_reg ?_ | refine Zp ?_ | refine Zq ?_ | refine Zr (fun hc => ?_) (fun hc => ?_) | refine ok_block ?_ | refine ok_exit ?_ | refine ok_skip ?_ | refine ok_ret ?_ | refine x_normal_then ?_
    | refine x_exit_here ?_ | refine Zs ?_ | refine Zv ?_ | refine x_ret_then ?_ | refine x_ret_block ?_ | refine x_normal_block ?_ | refine Zt ?_ | refine Zu ?_
  refine ok_for (ι := Nat × List Int × List (ByteArray × Int)) (fun x => envL [(3, .sl 1 1 0 p.length), (4, .mp 2), (22, .d (.im (p.map eNod))), (23, vi p.length), (24, vi x.1)]) (fun x => stL [none, some (.row 1 3 1 (fil eInt x.2.1 p.length [vi 0])), some (.map .string (smap vi x.2.2))]) (fun x => x.1 ≤ p.length ∧ x.2.1.length = x.1 ∧ wB x.2.1 ∧ (∀ s, sfind x.2.2 s = (fidx (p.take x.1) s).map fun j : Nat => (j : Int)) ∧ wsGo (p.take x.1) x.2.1 (p.drop x.1) = wsI p) (fun x => p.length - x.1) (0, [], []) (⟨Nat.zero_le _, rfl, fun x hx => by simp at hx, fun s => rfl, rfl⟩) (weak_mk rfl ⟨.refl _, .refl _, .refl _, .refl _, .refl _, trivial⟩ ⟨⟨rfl, _, rfl, rfl, rfl, rfl, rfl⟩, ⟨rfl, _, rfl, rfl, rfl⟩, trivial⟩) (fun _ => Nat.le_refl _) ?_
  rintro ⟨k, ws, F⟩ ⟨i1, i2, i3, i4, i5⟩
  simp only at i1 i2 i3 i4 i5
  rcases hx : p[k]? with _ | x
  · have hle := none_le hx
    have ek : decide ((k : Int) < (p.length : Int)) = false := decide_eq_false (by omega)
    rw [drop_none hx] at i5
    have i5 : ws = wsI p := i5
    subst i5
    repeat' first
      | refine Z1 ?_ | refine Z2 ?_ | refine Z3 ?_ | refine Z4 ?_ | refine Z5 ?_ | refine Z6 ?_ | refine Z7 ?_ | refine Z8 ?_ | refine Z9 ?_ | refine Za (fun hc => ?_) (fun hc => ?_) | refine Zb (fun hc => ?_) (fun hc => ?_) | refine Zd ?_
      | refine Ze ?_ | refine Zf ?_ | refine Zg ?_ | refine Zh ?_ | refine Zi ?_ | refine Zj ?_ | refine Zk ?_ | refine Zl ?_ | refine Zm ?_ | refine Zn (fun hc => ?_) (fun hc => ?_)
      | refine fz_rows (fil_all (by rw [wsI_length]; exact Nat.le_refl _)) 2 rfl rfl (wsI_length p).symm ?_ | refine Zo ?_ | refine ok_seq ?_ | refine ok_reg ?_ | refine Zp ?_ | refine Zq ?_ | refine Zr (fun hc => ?_) (fun hc => ?_)
      | refine ok_block ?_ | refine ok_exit ?_ | refine ok_skip ?_ | refine ok_ret ?_ | refine x_normal_then ?_ | refine x_exit_here ?_ | refine Zs ?_ | refine Zv ?_ | refine x_ret_then ?_ | refine x_ret_block ?_ | refine x_normal_block ?_
      | refine Zt ?_ | refine Zu ?_
    rfl
  obtain ⟨hd, hlt⟩ := drop_some hx
  have ek : decide ((k : Int) < (p.length : Int)) = true := decide_eq_true (by omega)
  have hwx := wL_mem (w := wNod) (List.mem_of_getElem? hx)
  have hwx1 : wNod x ≤ 1048576 := by simp only [wL] at hw; omega
  have hwx2 := hwx1
  simp only [wNod, wL] at hwx2
  rw [hd] at i5
  repeat' first
    | refine Z1 ?_ | refine Z2 ?_ | refine Z3 ?_ | refine Z4 ?_ | refine Z5 ?_ | refine Z6 ?_ | refine Z7 ?_ | refine Z8 ?_ | refine Z9 ?_ | refine Za (fun hc => ?_) (fun hc => ?_) | refine Zb (fun hc => ?_) (fun hc => ?_) | refine Zd ?_
    | refine Ze ?_ | refine Zf ?_ | refine Zg ?_ | refine Zh ?_ | refine Zi ?_ | refine Zj ?_ | refine Zk ?_ | refine Zl ?_ | refine Zm ?_ | refine Zn (fun hc => ?_) (fun hc => ?_) | refine Zo ?_ | refine ok_seq ?_ | refine ok_reg ?_
    | refine Zp ?_ | refine Zq ?_ | refine Zr (fun hc => ?_) (fun hc => ?_) | refine ok_block ?_ | refine ok_exit ?_ | refine ok_skip ?_ | refine ok_ret ?_ | refine x_normal_then ?_ | refine x_exit_here ?_ | refine Zs ?_ | refine Zv ?_
    | refine x_ret_then ?_ | refine x_ret_block ?_ | refine x_normal_block ?_ | refine Zt ?_ | refine Zu ?_
  refine ok_for (ι := Nat × Int) (fun x_ => envL [(3, .sl 1 1 0 p.length), (4, .mp 2), (22, .d (.im (p.map eNod))), (23, vi p.length), (24, vi k), (5, vi k), (6, .ref 3 0), (7, vi x_.2), (30, .d (.im (x.eqs.map eEqn))), (31, vi x.eqs.length), (32, vi x_.1)]) (fun x_ => stL [none, some (.row 1 3 1 (fil eInt ws p.length [vi 0])), some (.map .string (smap vi F)), some (.var ((eNod x).map .d))]) (fun x_ => x_.1 ≤ x.eqs.length ∧ 0 ≤ x_.2 ∧ x_.2 ≤ 1 + (x_.1 : Int) * 8589934592 ∧ x_.2 + sumW (p.take k) ws (x.eqs.drop x_.1) = 1 + sumW (p.take k) ws x.eqs) (fun x_ => x.eqs.length - x_.1) (0, 1) (⟨Nat.zero_le _, by simp⟩) (weak_mk rfl ⟨.refl _, .refl _, .refl _, .refl _, .refl _, .refl _, .refl _, .refl _, .refl _, .refl _, .refl _, trivial⟩ ⟨⟨rfl, _, rfl, rfl, rfl, rfl, rfl⟩, ⟨rfl, _, rfl, rfl, rfl⟩, ⟨rfl, _, rfl, rfl, fun _ _ _ => .refl _⟩, trivial⟩) (fun _ => Nat.le_refl _) ?_
  rintro ⟨m, s⟩ ⟨j1, j2, j3, j4⟩
  simp only at j1 j2 j3 j4
  rcases hy : x.eqs[m]? with _ | e
  · have hle := none_le hy
    have em : decide ((m : Int) < (x.eqs.length : Int)) = false := decide_eq_false (by omega)
    rw [drop_none hy] at j4
    simp only [sumW, Int.add_zero] at j4
    have hnw : nodW (p.take k) ws x = min s 20001 := by simp only [nodW, j4]
    have hlk : ws.length < p.length := by omega
    have hwb : wB (ws ++ [min s 20001]) := by
      intro y hy
      rcases List.mem_append.1 hy with h | h
      · exact i3 y h
      · simp at h; omega
    have hgo : wsGo (p.take (k + 1)) (ws ++ [min s 20001]) (p.drop (k + 1)) = wsI p := by rw [take_push hx, ← hnw]; exact i5
    have hlen : (ws ++ [min s 20001]).length = k + 1 := by simp [i2]
    cases hs : sfind F x.name with
    | some j =>
      have hso : (sfind F x.name).isSome = true := by rw [hs]; rfl
      have hson : (!(sfind F x.name).isSome) = false := by rw [hs]; rfl
      repeat' first
        | refine Z1 ?_ | refine Z2 ?_ | refine Z3 ?_ | refine Z4 ?_ | refine Z5 ?_ | refine Z6 ?_ | refine Z7 ?_ | refine Z8 ?_ | refine Z9 ?_ | refine Za (fun hc => ?_) (fun hc => ?_) | refine Zb (fun hc => ?_) (fun hc => ?_)
        | refine Yh ?_ | refine Yf k rfl hlt ?_ | refine Yk (min s 20001) i2.symm hlk (eInt_one _) ?_ | refine Ya ?_ | refine Zd ?_ | refine Ze ?_ | refine Zf ?_ | refine Zg ?_ | refine Zh ?_ | refine Zi ?_ | refine Zj ?_ | refine Zk ?_
        | refine Zl ?_ | refine Zm ?_ | refine Zn (fun hc => ?_) (fun hc => ?_) | refine Zo ?_ | refine ok_seq ?_ | refine ok_reg ?_ | refine Zp ?_ | refine Zq ?_ | refine Zr (fun hc => ?_) (fun hc => ?_) | refine ok_block ?_
        | refine ok_exit ?_ | refine ok_skip ?_ | refine ok_ret ?_ | refine x_normal_then ?_ | refine x_exit_here ?_ | refine Zs ?_ | refine Zv ?_ | refine x_ret_then ?_ | refine x_ret_block ?_ | refine x_normal_block ?_ | refine Zt ?_
        | refine Zu ?_
      exact ⟨(k + 1, ws ++ [min s 20001], F), ⟨hlt, hlen, hwb, fun t => by rw [take_push hx, fidx_push, i4 t]; have h4 := i4 x.name; rw [hs] at h4; cases hq : fidx (p.take k) t with | some q => rfl | none => by_cases hxt : x.name = t; (rw [← hxt, ← Option.map_eq_none_iff (f := fun j : Nat => (j : Int)), ← h4] at hq; cases hq); simp [hxt], hgo⟩, by (try simp only); omega, low_mk (Nat.le_of_ble_eq_true rfl) ⟨⟨rfl, rfl⟩, ⟨rfl, rfl⟩, ⟨rfl, rfl⟩, ⟨rfl, rfl⟩, ⟨rfl, rfl⟩, trivial⟩ ⟨⟨rfl, blt_lt rfl, fil_low _ _ _ _ rfl⟩, ⟨rfl, smap_low (fun _ => rfl) _⟩, trivial⟩⟩
    | none =>
      have hso : (sfind F x.name).isSome = false := by rw [hs]; rfl
      have hson : (!(sfind F x.name).isSome) = true := by rw [hs]; rfl
      repeat' first
        | refine Z1 ?_ | refine Z2 ?_ | refine Z3 ?_ | refine Z4 ?_ | refine Z5 ?_ | refine Z6 ?_ | refine Z7 ?_ | refine Z8 ?_ | refine Z9 ?_ | refine Za (fun hc => ?_) (fun hc => ?_) | refine Zb (fun hc => ?_) (fun hc => ?_)
        | refine Yh ?_ | refine Yf k rfl hlt ?_ | refine Yk (min s 20001) i2.symm hlk (eInt_one _) ?_ | refine Ya ?_ | refine Yc ?_ | refine Zd ?_ | refine Ze ?_ | refine Zf ?_ | refine Zg ?_ | refine Zh ?_ | refine Zi ?_ | refine Zj ?_
        | refine Zk ?_ | refine Zl ?_ | refine Zm ?_ | refine Zn (fun hc => ?_) (fun hc => ?_) | refine Zo ?_ | refine ok_seq ?_ | refine ok_reg ?_ | refine Zp ?_ | refine Zq ?_ | refine Zr (fun hc => ?_) (fun hc => ?_) | refine ok_block ?_
        | refine ok_exit ?_ | refine ok_skip ?_ | refine ok_ret ?_ | refine x_normal_then ?_ | refine x_exit_here ?_ | refine Zs ?_ | refine Zv ?_ | refine x_ret_then ?_ | refine x_ret_block ?_ | refine x_normal_block ?_ | refine Zt ?_
        | refine Zu ?_
      exact ⟨(k + 1, ws ++ [min s 20001], sput F x.name k), ⟨hlt, hlen, hwb, fun t => by rw [take_push hx, fidx_push, sfind_sput, i4 t]; have h4 := i4 x.name; rw [hs] at h4; have h5 : fidx (p.take k) x.name = none := Option.map_eq_none_iff.1 h4.symm; by_cases hxt : t = x.name; (subst hxt; rw [h5]; simp; omega); (rw [if_neg hxt, if_neg (Ne.symm hxt)]; cases fidx (p.take k) t <;> rfl), hgo⟩, by (try simp only); omega, low_mk (Nat.le_of_ble_eq_true rfl) ⟨⟨rfl, rfl⟩, ⟨rfl, rfl⟩, ⟨rfl, rfl⟩, ⟨rfl, rfl⟩, ⟨rfl, rfl⟩, trivial⟩ ⟨⟨rfl, blt_lt rfl, fil_low _ _ _ _ rfl⟩, ⟨rfl, smap_low (fun _ => rfl) _⟩, trivial⟩⟩
  obtain ⟨hd2, hlt2⟩ := drop_some hy
  have em : decide ((m : Int) < (x.eqs.length : Int)) = true := decide_eq_true (by omega)
  have hwe := wL_mem (w := wEqn) (List.mem_of_getElem? hy)
  have hwe1 : wEqn e ≤ 1048576 := by omega
  have hwe2 := hwe1
  have hla := lens_le e.args
  have hcl := cntB_le e.code.length 0 e.code
  have hca := cntAs_le e.args
  have hin : innerI e ≤ 1048576 := by simp only [wEqn, wL] at hwe2 hla; simp only [innerI]; omega
  simp only [wEqn, wL] at hwe2 hla
  have hcW := cW_le (pre := p.take k) i3 e.call
  rw [hd2] at j4
  simp only [sumW, eqW] at j4
  repeat' first
    | refine Z1 ?_ | refine Z2 ?_ | refine Z3 ?_ | refine Z4 ?_ | refine Z5 ?_ | refine Z6 ?_ | refine Z7 ?_ | refine Z8 ?_ | refine Z9 ?_ | refine Za (fun hc => ?_) (fun hc => ?_) | refine Zb (fun hc => ?_) (fun hc => ?_)
    | refine Zc (inner_ok e hwe1) ?_ | refine Yg ?_ | refine Zd ?_ | refine Ze ?_ | refine Zf ?_ | refine Zg ?_ | refine Zh ?_ | refine Zi ?_ | refine Zj ?_ | refine Zk ?_ | refine Zl ?_ | refine Zm ?_
    | refine Zn (fun hc => ?_) (fun hc => ?_) | refine Zw ?_ | refine Zx ?_ | refine Zy ?_ | refine Zz (Zc (inner_ok e hwe1) ⟨rfl, rfl⟩) ?_ | refine Zz (Yg ⟨rfl, rfl⟩) ?_ | refine Zz (Zd ⟨rfl, rfl⟩) ?_ | refine Zz (Ze ⟨rfl, rfl⟩) ?_
    | refine Zz (Zf ⟨rfl, rfl⟩) ?_ | refine Zz (Zg ⟨rfl, rfl⟩) ?_ | refine Zz (Zh ⟨rfl, rfl⟩) ?_ | refine Zz (Zi ⟨rfl, rfl⟩) ?_ | refine Zz (Zj ⟨rfl, rfl⟩) ?_ | refine Zz (Zk ⟨rfl, rfl⟩) ?_ | refine Zz (Zl ⟨rfl, rfl⟩) ?_
    | refine Zz (Zm ⟨rfl, rfl⟩) ?_ | refine Zo ?_ | refine ok_seq ?_ | refine ok_reg ?_ | refine ok_draw X_mixed (by decide +kernel) ?_ | refine Zp ?_ | refine Zq ?_ | refine Zr (fun hc => ?_) (fun hc => ?_) | refine ok_block ?_
    | refine ok_exit ?_ | refine ok_skip ?_ | refine ok_ret ?_ | refine x_normal_then ?_ | refine x_exit_here ?_ | refine Zs ?_ | refine Zv ?_ | refine x_ret_then ?_ | refine x_ret_block ?_ | refine x_normal_block ?_ | refine Zt ?_
    | refine Zu ?_
  refine ok_for (ι := Nat × Int) (fun x_ => envL [(3, .sl 1 1 0 p.length), (4, .mp 2), (22, .d (.im (p.map eNod))), (23, vi p.length), (24, vi k), (5, vi k), (6, .ref 3 0), (7, vi x_.2), (30, .d (.im (x.eqs.map eEqn))), (31, vi x.eqs.length), (32, vi m), (9, .ref 4 0), (47, .d (.im (e.args.map eItms))), (48, vi e.args.length), (49, vi x_.1)]) (fun x_ => stL [none, some (.row 1 3 1 (fil eInt ws p.length [vi 0])), some (.map .string (smap vi F)), some (.var ((eNod x).map .d)), some (.var ((eEqn e).map .d))]) (fun x_ => x_.1 ≤ e.args.length ∧ 0 ≤ x_.2 ∧ x_.2 + (lens (e.args.drop x_.1) : Int) = s + (1 + (e.code.length : Int) + 2 * (innerI e : Int)) + (lens e.args : Int)) (fun x_ => e.args.length - x_.1) (0, s + (1 + (e.code.length : Int) + 2 * (innerI e : Int))) (⟨Nat.zero_le _, by simp only; omega, by simp⟩) (weak_mk rfl ⟨.refl _, .refl _, .refl _, .refl _, .refl _, .refl _, .refl _, .refl _, .refl _, .refl _, .refl _, .refl _, .refl _, .refl _, .refl _, trivial⟩ ⟨⟨rfl, _, rfl, rfl, rfl, rfl, rfl⟩, ⟨rfl, _, rfl, rfl, rfl⟩, ⟨rfl, _, rfl, rfl, fun _ _ _ => .refl _⟩, ⟨rfl, _, rfl, rfl, fun _ _ _ => .refl _⟩, trivial⟩) (fun _ => Nat.le_refl _) ?_
  rintro ⟨q, u⟩ ⟨l1, l2, l3⟩
  simp only at l1 l2 l3
  rcases hz : e.args[q]? with _ | a
  · have hle := none_le hz
    have eq : decide ((q : Int) < (e.args.length : Int)) = false := decide_eq_false (by omega)
    rw [drop_none hz] at l3
    simp only [lens] at l3
    by_cases hc : e.call = ⟨#[]⟩
    · have d1 : decide (e.call ≠ ⟨#[]⟩) = false := decide_eq_false (fun h => h hc)
      have hcw : cW (p.take k) ws e.call = 0 := by simp [cW, hc]
      repeat' first
        | refine Z1 ?_ | refine Z2 ?_ | refine Z3 ?_ | refine Z4 ?_ | refine Z5 ?_ | refine Z6 ?_ | refine Z7 ?_ | refine Z8 ?_ | refine Z9 ?_ | refine Za (fun hc => ?_) (fun hc => ?_) | refine Zb (fun hc => ?_) (fun hc => ?_)
        | refine Zd ?_ | refine Ze ?_ | refine Zf ?_ | refine Zg ?_ | refine Zh ?_ | refine Zi ?_ | refine Zj ?_ | refine Zk ?_ | refine Zl ?_ | refine Zm ?_ | refine Zn (fun hc => ?_) (fun hc => ?_) | refine Zo ?_ | refine ok_seq ?_
        | refine ok_reg ?_ | refine Zp ?_ | refine Zq ?_ | refine Zr (fun hc => ?_) (fun hc => ?_) | refine ok_block ?_ | refine ok_exit ?_ | refine ok_skip ?_ | refine ok_ret ?_ | refine x_normal_then ?_ | refine x_exit_here ?_
        | refine Zs ?_ | refine Zv ?_ | refine x_ret_then ?_ | refine x_ret_block ?_ | refine x_normal_block ?_ | refine Zt ?_ | refine Zu ?_
      exact ⟨(m + 1, u), ⟨hlt2, by simp only; omega, by simp only; omega, by simp only; omega⟩, by (try simp only); omega, low_mk (Nat.le_of_ble_eq_true rfl) ⟨⟨rfl, rfl⟩, ⟨rfl, rfl⟩, ⟨rfl, rfl⟩, ⟨rfl, rfl⟩, ⟨rfl, rfl⟩, ⟨rfl, rfl⟩, ⟨rfl, rfl⟩, ⟨rfl, rfl⟩, ⟨rfl, rfl⟩, ⟨rfl, rfl⟩, ⟨rfl, rfl⟩, trivial⟩ ⟨⟨rfl, blt_lt rfl, fil_low _ _ _ _ rfl⟩, ⟨rfl, smap_low (fun _ => rfl) _⟩, ⟨rfl, rfl⟩, trivial⟩⟩
    · have d1 : decide (e.call ≠ ⟨#[]⟩) = true := decide_eq_true hc
      have h4 := i4 e.call
      cases hf : fidx (p.take k) e.call with
      | none =>
        rw [hf] at h4
        have hso : (sfind F e.call).isSome = false := by rw [h4]; rfl
        have hcw : cW (p.take k) ws e.call = 0 := by simp [cW, hc, hf]
        repeat' first
          | refine Z1 ?_ | refine Z2 ?_ | refine Z3 ?_ | refine Z4 ?_ | refine Z5 ?_ | refine Z6 ?_ | refine Z7 ?_ | refine Z8 ?_ | refine Z9 ?_ | refine Za (fun hc => ?_) (fun hc => ?_) | refine Zb (fun hc => ?_) (fun hc => ?_)
          | refine Ya ?_ | refine Zd ?_ | refine Ze ?_ | refine Zf ?_ | refine Zg ?_ | refine Zh ?_ | refine Zi ?_ | refine Zj ?_ | refine Zk ?_ | refine Zl ?_ | refine Zm ?_ | refine Zn (fun hc => ?_) (fun hc => ?_) | refine Zo ?_
          | refine ok_seq ?_ | refine ok_reg ?_ | refine Zp ?_ | refine Zq ?_ | refine Zr (fun hc => ?_) (fun hc => ?_) | refine ok_block ?_ | refine ok_exit ?_ | refine ok_skip ?_ | refine ok_ret ?_ | refine x_normal_then ?_
          | refine x_exit_here ?_ | refine Zs ?_ | refine Zv ?_ | refine x_ret_then ?_ | refine x_ret_block ?_ | refine x_normal_block ?_ | refine Zt ?_ | refine Zu ?_
        exact ⟨(m + 1, u), ⟨hlt2, by simp only; omega, by simp only; omega, by simp only; omega⟩, by (try simp only); omega, low_mk (Nat.le_of_ble_eq_true rfl) ⟨⟨rfl, rfl⟩, ⟨rfl, rfl⟩, ⟨rfl, rfl⟩, ⟨rfl, rfl⟩, ⟨rfl, rfl⟩, ⟨rfl, rfl⟩, ⟨rfl, rfl⟩, ⟨rfl, rfl⟩, ⟨rfl, rfl⟩, ⟨rfl, rfl⟩, ⟨rfl, rfl⟩, trivial⟩ ⟨⟨rfl, blt_lt rfl, fil_low _ _ _ _ rfl⟩, ⟨rfl, smap_low (fun _ => rfl) _⟩, ⟨rfl, rfl⟩, trivial⟩⟩
      | some j =>
        rw [hf] at h4
        have hso : (sfind F e.call).isSome = true := by rw [h4]; rfl
        have hj := fidx_lt hf
        have hjk : j < k := by simp at hj; omega
        have hjp : j < p.length := by omega
        obtain ⟨v, hv⟩ : ∃ v, ws[j]? = some v := ⟨ws[j]'(by omega), List.getElem?_eq_getElem _⟩
        have hvb := i3 v (List.mem_of_getElem? hv)
        have hcw : cW (p.take k) ws e.call = v := by simp [cW, hc, hf, hv]
        have hn : (sfind F e.call).getD 0 = (j : Int) := by rw [h4]; rfl
        repeat' first
          | refine Z1 ?_ | refine Z2 ?_ | refine Z3 ?_ | refine Z4 ?_ | refine Z5 ?_ | refine Z6 ?_ | refine Z7 ?_ | refine Z8 ?_ | refine Z9 ?_ | refine Za (fun hc => ?_) (fun hc => ?_) | refine Zb (fun hc => ?_) (fun hc => ?_)
          | refine Ya ?_ | refine Yf j hn hjp ?_ | refine Ye (fil_get hv) ?_ | refine Zd ?_ | refine Ze ?_ | refine Zf ?_ | refine Zg ?_ | refine Zh ?_ | refine Zi ?_ | refine Zj ?_ | refine Zk ?_ | refine Zl ?_ | refine Zm ?_
          | refine Zn (fun hc => ?_) (fun hc => ?_) | refine Zo ?_ | refine ok_seq ?_ | refine ok_reg ?_ | refine Zp ?_ | refine Zq ?_ | refine Zr (fun hc => ?_) (fun hc => ?_) | refine ok_block ?_ | refine ok_exit ?_ | refine ok_skip ?_
          | refine ok_ret ?_ | refine x_normal_then ?_ | refine x_exit_here ?_ | refine Zs ?_ | refine Zv ?_ | refine x_ret_then ?_ | refine x_ret_block ?_ | refine x_normal_block ?_ | refine Zt ?_ | refine Zu ?_
        exact ⟨(m + 1, u + v), ⟨hlt2, by simp only; omega, by simp only; omega, by simp only; omega⟩, by (try simp only); omega, low_mk (Nat.le_of_ble_eq_true rfl) ⟨⟨rfl, rfl⟩, ⟨rfl, rfl⟩, ⟨rfl, rfl⟩, ⟨rfl, rfl⟩, ⟨rfl, rfl⟩, ⟨rfl, rfl⟩, ⟨rfl, rfl⟩, ⟨rfl, rfl⟩, ⟨rfl, rfl⟩, ⟨rfl, rfl⟩, ⟨rfl, rfl⟩, trivial⟩ ⟨⟨rfl, blt_lt rfl, fil_low _ _ _ _ rfl⟩, ⟨rfl, smap_low (fun _ => rfl) _⟩, ⟨rfl, rfl⟩, trivial⟩⟩
  obtain ⟨hd3, hlt3⟩ := drop_some hz
  have eq : decide ((q : Int) < (e.args.length : Int)) = true := decide_eq_true (by omega)
  rw [hd3] at l3
  simp only [lens] at l3
  repeat' first
    | refine Z1 ?_ | refine Z2 ?_ | refine Z3 ?_ | refine Z4 ?_ | refine Z5 ?_ | refine Z6 ?_ | refine Z7 ?_ | refine Z8 ?_ | refine Z9 ?_ | refine Za (fun hc => ?_) (fun hc => ?_) | refine Zb (fun hc => ?_) (fun hc => ?_) | refine Zd ?_
    | refine Ze ?_ | refine Zf ?_ | refine Zg ?_ | refine Zh ?_ | refine Zi ?_ | refine Zj ?_ | refine Zk ?_ | refine Zl ?_ | refine Zm ?_ | refine Zn (fun hc => ?_) (fun hc => ?_) | refine Zo ?_ | refine ok_seq ?_ | refine ok_reg ?_
    | refine Zp ?_ | refine Zq ?_ | refine Zr (fun hc => ?_) (fun hc => ?_) | refine ok_block ?_ | refine ok_exit ?_ | refine ok_skip ?_ | refine ok_ret ?_ | refine x_normal_then ?_ | refine x_exit_here ?_ | refine Zs ?_ | refine Zv ?_
    | refine x_ret_then ?_ | refine x_ret_block ?_ | refine x_normal_block ?_ | refine Zt ?_ | refine Zu ?_
  exact ⟨(q + 1, u + (a.length : Int)), ⟨hlt3, by simp only; omega, by simp only; omega⟩, by (try simp only); omega, low_mk (Nat.le_of_ble_eq_true rfl) ⟨⟨rfl, rfl⟩, ⟨rfl, rfl⟩, ⟨rfl, rfl⟩, ⟨rfl, rfl⟩, ⟨rfl, rfl⟩, ⟨rfl, rfl⟩, ⟨rfl, rfl⟩, ⟨rfl, rfl⟩, ⟨rfl, rfl⟩, ⟨rfl, rfl⟩, ⟨rfl, rfl⟩, ⟨rfl, rfl⟩, ⟨rfl, rfl⟩, ⟨rfl, rfl⟩, ⟨rfl, rfl⟩, trivial⟩ ⟨⟨rfl, blt_lt rfl, fil_low _ _ _ _ rfl⟩, ⟨rfl, smap_low (fun _ => rfl) _⟩, ⟨rfl, rfl⟩, ⟨rfl, rfl⟩, trivial⟩⟩
end Go.Pm
