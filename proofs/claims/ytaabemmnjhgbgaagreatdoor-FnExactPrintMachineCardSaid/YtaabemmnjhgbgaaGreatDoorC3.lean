/- Machines of the specification: nesting. -/
import Derived.Test.YtaabemmnjhgbgaaGreatDoorC2
set_option linter.unusedVariables false
set_option linter.unusedSimpArgs false
namespace Go.Pm
attribute [local irreducible] AR Ok inBlock andThen endQ aoper
set_option maxHeartbeats 1000000
open Go.Proofs
/-- The parts of an If that are cut out of a list. -/
theorem cut_parts {l y n r2 : List Sm} {i : Nat} {s e f : Sm} (hd : l.drop i = s :: (y ++ e :: (n ++ f :: r2))) :
    i + 1 + y.length + 1 + n.length < l.length ∧ (l.drop (i + 1)).take (i + 1 + y.length - (i + 1)) = y ∧ (l.drop (i + 1 + y.length + 1)).take (i + 1 + y.length + 1 + n.length - (i + 1 + y.length + 1)) = n ∧ l.drop (i + 1 + y.length + 1 + n.length + 1) = r2 := by
  have h1 : l.drop (i + 1) = y ++ e :: (n ++ f :: r2) := by rw [← List.drop_drop, hd]; rfl
  have h2 : l.drop (i + 1 + y.length + 1) = n ++ f :: r2 := by rw [show i + 1 + y.length + 1 = i + 1 + (y.length + 1) by omega, ← List.drop_drop, h1, ← List.drop_drop, List.drop_left]; rfl
  have h3 : l.drop (i + 1 + y.length + 1 + n.length + 1) = r2 := by rw [show i + 1 + y.length + 1 + n.length + 1 = i + 1 + y.length + 1 + (n.length + 1) by omega, ← List.drop_drop, h2, ← List.drop_drop, List.drop_left]; rfl
  refine ⟨?_, ?_, ?_, h3⟩
  · have := congrArg List.length hd
    simp only [List.length_drop, List.length_cons, List.length_append] at this
    omega
  · rw [h1, show i + 1 + y.length - (i + 1) = y.length by omega, List.take_left]
  · rw [h2, show i + 1 + y.length + 1 + n.length - (i + 1 + y.length + 1) = n.length by omega, List.take_left]
set_option maxHeartbeats 4000000 in
theorem snest_ok : ∀ (N : Nat) (l : List Sm) (d : Int), l.length = N → l.length ≤ 1048576 → 0 ≤ d → d + l.length ≤ 2097152 → PFun X 41 [.d (.im (l.map eSm)), vi d] (vb (nestV l d)) := by
  intro N
  induction N using Nat.strongRecOn with
  | _ N ih =>
    intro l d hN hl hd0 hd1
    refine pfun_of Tryz.func41 rfl (by decide) Tryz.ntmps41 Tryz.results41 (by simp) rfl rfl ?_
    repeat' first
      | refine Z1 ?_ | refine Z2 ?_ | refine Zo ?_ | refine ok_seq ?_ | refine ok_block ?_
    refine ok_for (ι := Nat) (fun x => envL [(0, .d (.im (l.map eSm))), (1, vi d), (4, vb false), (5, vi x)]) (fun x => stL []) (fun x => x ≤ l.length ∧ nestV (l.drop x) d = nestV l d) (fun x => l.length - x) 0 (⟨Nat.zero_le _, rfl⟩) (weak_mk rfl ⟨.refl _, .refl _, .refl _, .refl _, trivial⟩ trivial) (fun _ => Nat.le_refl 0) ?_
    rintro i ⟨i1, i2⟩
    rcases hx : l[i]? with _ | s
    · have hle := none_le hx
      have ek : decide ((i : Int) < (l.length : Int)) = false := decide_eq_false (by omega)
      rw [drop_none hx, nestV_nil] at i2
      repeat' first
        | refine Z1 ?_ | refine Z2 ?_ | refine Z5 ?_ | refine Zd ?_ | refine Zo ?_ | refine ok_seq ?_ | refine Zq ?_ | refine ok_exit ?_ | refine ok_ret ?_ | refine x_normal_then ?_ | refine x_exit_here ?_ | refine Zv ?_
        | refine Zt ?_
      exact ret_vb i2
    obtain ⟨hd, hlt⟩ := drop_some hx
    have ek : decide ((i : Int) < (l.length : Int)) = true := decide_eq_true (by omega)
    have fin : nestV (l.drop i) d = false → false = nestV l d := fun h => by rw [← i2, h]
    by_cases k5 : s.kind = 5
    · have d5 : decide (s.kind = 5) = true := decide_eq_true k5
      have hf := fin (by rw [hd]; exact nestV_bad (.inl k5) d)
      repeat' first
        | refine Z1 ?_ | refine Z2 ?_ | refine Z5 ?_ | refine Zd ?_ | refine Ze ?_ | refine Zo ?_ | refine ok_seq ?_ | refine Zp ?_ | refine ok_block ?_ | refine ok_skip ?_ | refine ok_ret ?_ | refine x_normal_then ?_
        | refine x_ret_then ?_ | refine x_ret_block ?_ | refine Zt ?_
      exact ret_vb hf
    have d5 : decide (s.kind = 5) = false := decide_eq_false k5
    by_cases k6 : s.kind = 6
    · have d6 : decide (s.kind = 6) = true := decide_eq_true k6
      have hf := fin (by rw [hd]; exact nestV_bad (.inr k6) d)
      repeat' first
        | refine Z1 ?_ | refine Z2 ?_ | refine Z5 ?_ | refine Zd ?_ | refine Ze ?_ | refine Zo ?_ | refine ok_seq ?_ | refine ok_reg ?_ | refine Zp ?_ | refine Zq ?_ | refine ok_block ?_ | refine ok_skip ?_ | refine ok_ret ?_
        | refine x_normal_then ?_ | refine x_ret_then ?_ | refine x_ret_block ?_ | refine Zt ?_
      exact ret_vb hf
    have d6 : decide (s.kind = 6) = false := decide_eq_false k6
    by_cases k4 : s.kind = 4
    · have d4 : decide (s.kind = 4) = true := decide_eq_true k4
      have hps := sparts_ok l i i1 hl
      rcases hp : partsS l i with ⟨O, E⟩
      rw [hp] at hps
      unfold partsS at hp
      rw [hd] at hp
      by_cases hO : O < 0
      · have b1 : decide (O < 0) = true := decide_eq_true hO
        have hf := fin (by rw [hd]; exact nestV_none k4 hp (.inl hO) d)
        repeat' first
          | refine Z1 ?_ | refine Z2 ?_ | refine Z5 ?_ | refine Z9 ?_ | refine Zc (hps) ?_ | refine Zd ?_ | refine Ze ?_ | refine Zl ?_ | refine Zo ?_ | refine ok_seq ?_ | refine ok_reg ?_ | refine Zp ?_ | refine Zq ?_
          | refine ok_block ?_ | refine ok_skip ?_ | refine ok_ret ?_ | refine x_normal_then ?_ | refine x_ret_then ?_ | refine x_ret_block ?_ | refine Zt ?_
        exact ret_vb hf
      have b1 : decide (O < 0) = false := decide_eq_false hO
      by_cases hE : E < 0
      · have b2 : decide (E < 0) = true := decide_eq_true hE
        have hf := fin (by rw [hd]; exact nestV_none k4 hp (.inr hE) d)
        repeat' first
          | refine Z1 ?_ | refine Z2 ?_ | refine Z5 ?_ | refine Z7 ?_ | refine Zc (hps) ?_ | refine Zd ?_ | refine Ze ?_ | refine Zh ?_ | refine Zi ?_ | refine Zm ?_ | refine Zo ?_ | refine ok_seq ?_ | refine ok_reg ?_
          | refine Zp ?_ | refine Zq ?_ | refine ok_block ?_ | refine ok_skip ?_ | refine ok_ret ?_ | refine x_normal_then ?_ | refine x_ret_then ?_ | refine x_ret_block ?_ | refine Zt ?_
        exact ret_vb hf
      have b2 : decide (E < 0) = false := decide_eq_false hE
      obtain ⟨y, e, n, f, r2, hr, h5, h6, hO', hE'⟩ := if_cut k4 hp (by omega) (by omega)
      subst hO' hE'
      rw [hr] at hd hp
      obtain ⟨c0, c1, c2, c3⟩ := cut_parts hd
      have hnv := nestV_if k4 h5 h6 hp d
      rw [← hd] at hnv
      have key : ((0 < y.length ∨ 0 < n.length) ∧ 20 < d + 1 → false = nestV l d) ∧ (¬ ((0 < y.length ∨ 0 < n.length) ∧ 20 < d + 1) → (nestV y (d + 1) && nestV n (d + 1) && nestV r2 d) = nestV l d) :=
        ⟨fun h => by rw [← i2, hnv, if_pos h], fun h => by rw [← i2, hnv, if_neg h]⟩
      have hy := ih y.length (by omega) y (d + 1) rfl (by omega) (by omega) (by omega)
      have hn := ih n.length (by omega) n (d + 1) rfl (by omega) (by omega) (by omega)
      have all : ∀ Q : Prop, ((decide (((i : Int) + 1) < ((i + 1 + y.length : Nat) : Int)) = true ∨ (decide (((i : Int) + 1) < ((i + 1 + y.length : Nat) : Int)) = false ∧ decide ((((i + 1 + y.length : Nat) : Int) + 1) < ((i + 1 + y.length + 1 + n.length : Nat) : Int)) = true)) → (0 < y.length ∨ 0 < n.length) → Q) → (decide (((i : Int) + 1) < ((i + 1 + y.length : Nat) : Int)) = false → decide ((((i + 1 + y.length : Nat) : Int) + 1) < ((i + 1 + y.length + 1 + n.length : Nat) : Int)) = false → ¬ (0 < y.length ∨ 0 < n.length) → Q) → Q := by
        intro Q a b
        by_cases h1 : 0 < y.length
        · exact a (.inl (decide_eq_true (by omega))) (.inl h1)
        · by_cases h2 : 0 < n.length
          · exact a (.inr ⟨decide_eq_false (by omega), decide_eq_true (by omega)⟩) (.inr h2)
          · exact b (decide_eq_false (by omega)) (decide_eq_false (by omega)) (by omega)
      have rest : ∀ {Q : Prop}, ¬ ((0 < y.length ∨ 0 < n.length) ∧ 20 < d + 1) → ((!nestV y (d + 1)) = true → false = nestV l d → Q) → ((!nestV y (d + 1)) = false → (!nestV n (d + 1)) = true → false = nestV l d → Q) → ((!nestV y (d + 1)) = false → (!nestV n (d + 1)) = false → nestV r2 d = nestV l d → Q) → Q := by
        intro Q h a b c
        have := key.2 h
        cases h1 : nestV y (d + 1) with
        | false => exact a (by rw [h1]; rfl) (by rw [← this, h1]; rfl)
        | true =>
          cases h2 : nestV n (d + 1) with
          | false => exact b (by rw [h1]; rfl) (by rw [h2]; rfl) (by rw [← this, h1, h2]; rfl)
          | true => exact c (by rw [h1]; rfl) (by rw [h2]; rfl) (by rw [← this, h1, h2]; simp)
      have hbk : nestV (l.drop (i + 1 + y.length + 1 + n.length + 1)) d = nestV r2 d := by rw [c3]
      refine all _ (fun hin hpos => ?_) (fun q1 q2 hpos => ?_)
      · rcases hin with q1 | ⟨q1, q2⟩
        · by_cases h20 : 20 < d + 1
          · have q3 : decide (20 < d + 1) = true := decide_eq_true h20
            have hf := key.1 ⟨hpos, h20⟩
            repeat' first
              | refine Z1 ?_ | refine Z2 ?_ | refine Z5 ?_ | refine Z7 ?_ | refine Z9 ?_ | refine Zc (hps) ?_ | refine Zd ?_ | refine Ze ?_ | refine Zf ?_ | refine Zh ?_ | refine Zi ?_ | refine Zl ?_ | refine Zo ?_
              | refine ok_seq ?_ | refine ok_reg ?_ | refine Zp ?_ | refine Zq ?_ | refine ok_block ?_ | refine ok_skip ?_ | refine ok_ret ?_ | refine x_normal_then ?_ | refine x_ret_then ?_ | refine x_ret_block ?_ | refine Zt ?_
            exact ret_vb hf
          have q3 : decide (20 < d + 1) = false := decide_eq_false h20
          refine rest (fun h => h20 h.2) (fun v1 hf => ?_) (fun v1 v2 hf => ?_) (fun v1 v2 hg => ?_)
          ·
            repeat' first
              | refine Z1 ?_ | refine Z2 ?_ | refine Z5 ?_ | refine Z7 ?_ | refine Z9 ?_ | refine Zc (hps) ?_ | refine Ysl (e := eSm) (l := l) (i + 1) (i + 1 + y.length) y c1 ?_ | refine Zc (hy) ?_ | refine Zd ?_ | refine Ze ?_
              | refine Zf ?_ | refine Zh ?_ | refine Zi ?_ | refine Zl ?_ | refine Zo ?_ | refine ok_seq ?_ | refine ok_reg ?_ | refine Zp ?_ | refine Zq ?_ | refine ok_block ?_ | refine ok_skip ?_ | refine ok_ret ?_ | refine x_normal_then ?_
              | refine x_ret_then ?_ | refine x_ret_block ?_ | refine Zt ?_
            exact ret_vb hf
          ·
            repeat' first
              | refine Z1 ?_ | refine Z2 ?_ | refine Z5 ?_ | refine Z7 ?_ | refine Z9 ?_ | refine Zc (hps) ?_ | refine Ysl (e := eSm) (l := l) (i + 1) (i + 1 + y.length) y c1 ?_
              | refine Ysl (e := eSm) (l := l) (i + 1 + y.length + 1) (i + 1 + y.length + 1 + n.length) n c2 ?_ | refine Zc (hy) ?_ | refine Zc (hn) ?_ | refine Zd ?_ | refine Ze ?_ | refine Zf ?_ | refine Zh ?_ | refine Zi ?_ | refine Zl ?_
              | refine Zm ?_ | refine Zo ?_ | refine ok_seq ?_ | refine ok_reg ?_ | refine Zp ?_ | refine Zq ?_ | refine ok_block ?_ | refine ok_skip ?_ | refine ok_ret ?_ | refine x_normal_then ?_ | refine x_ret_then ?_
              | refine x_ret_block ?_ | refine Zt ?_
            exact ret_vb hf
          ·
            repeat' first
              | refine Z1 ?_ | refine Z2 ?_ | refine Z3 ?_ | refine Z5 ?_ | refine Z7 ?_ | refine Z9 ?_ | refine Zc (hps) ?_ | refine Ysl (e := eSm) (l := l) (i + 1) (i + 1 + y.length) y c1 ?_
              | refine Ysl (e := eSm) (l := l) (i + 1 + y.length + 1) (i + 1 + y.length + 1 + n.length) n c2 ?_ | refine Zc (hy) ?_ | refine Zc (hn) ?_ | refine Zd ?_ | refine Ze ?_ | refine Zf ?_ | refine Zh ?_ | refine Zi ?_ | refine Zl ?_
              | refine Zm ?_ | refine Zo ?_ | refine ok_seq ?_ | refine ok_reg ?_ | refine Zp ?_ | refine Zq ?_ | refine ok_block ?_ | refine ok_skip ?_ | refine x_normal_then ?_ | refine x_normal_block ?_
            exact ⟨i + 1 + y.length + 1 + n.length + 1, ⟨by omega, hbk.trans hg⟩, by (try simp only); omega, low_mk (Nat.zero_le _) ⟨⟨rfl, rfl⟩, ⟨rfl, rfl⟩, ⟨rfl, rfl⟩, ⟨rfl, rfl⟩, trivial⟩ trivial⟩
        · by_cases h20 : 20 < d + 1
          · have q3 : decide (20 < d + 1) = true := decide_eq_true h20
            have hf := key.1 ⟨hpos, h20⟩
            repeat' first
              | refine Z1 ?_ | refine Z2 ?_ | refine Z5 ?_ | refine Z7 ?_ | refine Zc (hps) ?_ | refine Zd ?_ | refine Ze ?_ | refine Zf ?_ | refine Zh ?_ | refine Zi ?_ | refine Zl ?_ | refine Zm ?_ | refine Zo ?_
              | refine ok_seq ?_ | refine ok_reg ?_ | refine Zp ?_ | refine Zq ?_ | refine ok_block ?_ | refine ok_skip ?_ | refine ok_ret ?_ | refine x_normal_then ?_ | refine x_ret_then ?_ | refine x_ret_block ?_ | refine Zt ?_
            exact ret_vb hf
          have q3 : decide (20 < d + 1) = false := decide_eq_false h20
          refine rest (fun h => h20 h.2) (fun v1 hf => ?_) (fun v1 v2 hf => ?_) (fun v1 v2 hg => ?_)
          ·
            repeat' first
              | refine Z1 ?_ | refine Z2 ?_ | refine Z5 ?_ | refine Z7 ?_ | refine Z9 ?_ | refine Zc (hps) ?_ | refine Ysl (e := eSm) (l := l) (i + 1) (i + 1 + y.length) y c1 ?_ | refine Zc (hy) ?_ | refine Zd ?_ | refine Ze ?_
              | refine Zf ?_ | refine Zh ?_ | refine Zi ?_ | refine Zl ?_ | refine Zm ?_ | refine Zo ?_ | refine ok_seq ?_ | refine ok_reg ?_ | refine Zp ?_ | refine Zq ?_ | refine ok_block ?_ | refine ok_skip ?_ | refine ok_ret ?_
              | refine x_normal_then ?_ | refine x_ret_then ?_ | refine x_ret_block ?_ | refine Zt ?_
            exact ret_vb hf
          ·
            repeat' first
              | refine Z1 ?_ | refine Z2 ?_ | refine Z5 ?_ | refine Z7 ?_ | refine Zc (hps) ?_ | refine Ysl (e := eSm) (l := l) (i + 1) (i + 1 + y.length) y c1 ?_
              | refine Ysl (e := eSm) (l := l) (i + 1 + y.length + 1) (i + 1 + y.length + 1 + n.length) n c2 ?_ | refine Zc (hy) ?_ | refine Zc (hn) ?_ | refine Zd ?_ | refine Ze ?_ | refine Zf ?_ | refine Zh ?_ | refine Zi ?_ | refine Zl ?_
              | refine Zm ?_ | refine Zo ?_ | refine ok_seq ?_ | refine ok_reg ?_ | refine Zp ?_ | refine Zq ?_ | refine ok_block ?_ | refine ok_skip ?_ | refine ok_ret ?_ | refine x_normal_then ?_ | refine x_ret_then ?_
              | refine x_ret_block ?_ | refine Zt ?_
            exact ret_vb hf
          ·
            repeat' first
              | refine Z1 ?_ | refine Z2 ?_ | refine Z3 ?_ | refine Z5 ?_ | refine Z7 ?_ | refine Zc (hps) ?_ | refine Ysl (e := eSm) (l := l) (i + 1) (i + 1 + y.length) y c1 ?_
              | refine Ysl (e := eSm) (l := l) (i + 1 + y.length + 1) (i + 1 + y.length + 1 + n.length) n c2 ?_ | refine Zc (hy) ?_ | refine Zc (hn) ?_ | refine Zd ?_ | refine Ze ?_ | refine Zf ?_ | refine Zh ?_ | refine Zi ?_ | refine Zl ?_
              | refine Zm ?_ | refine Zo ?_ | refine ok_seq ?_ | refine ok_reg ?_ | refine Zp ?_ | refine Zq ?_ | refine ok_block ?_ | refine ok_skip ?_ | refine x_normal_then ?_ | refine x_normal_block ?_
            exact ⟨i + 1 + y.length + 1 + n.length + 1, ⟨by omega, hbk.trans hg⟩, by (try simp only); omega, low_mk (Nat.zero_le _) ⟨⟨rfl, rfl⟩, ⟨rfl, rfl⟩, ⟨rfl, rfl⟩, ⟨rfl, rfl⟩, trivial⟩ trivial⟩
      · refine rest (fun h => hpos h.1) (fun v1 hf => ?_) (fun v1 v2 hf => ?_) (fun v1 v2 hg => ?_)
        ·
          repeat' first
            | refine Z1 ?_ | refine Z2 ?_ | refine Z5 ?_ | refine Z7 ?_ | refine Z8 ?_ | refine Z9 ?_ | refine Zc (hps) ?_ | refine Ysl (e := eSm) (l := l) (i + 1) (i + 1 + y.length) y c1 ?_ | refine Zc (hy) ?_ | refine Zd ?_
            | refine Ze ?_ | refine Zf ?_ | refine Zh ?_ | refine Zi ?_ | refine Zl ?_ | refine Zm ?_ | refine Zo ?_ | refine ok_seq ?_ | refine ok_reg ?_ | refine Zp ?_ | refine Zq ?_ | refine ok_block ?_ | refine ok_skip ?_
            | refine ok_ret ?_ | refine x_normal_then ?_ | refine x_ret_then ?_ | refine x_ret_block ?_ | refine Zt ?_
          exact ret_vb hf
        ·
          repeat' first
            | refine Z1 ?_ | refine Z2 ?_ | refine Z5 ?_ | refine Z7 ?_ | refine Z8 ?_ | refine Zc (hps) ?_ | refine Ysl (e := eSm) (l := l) (i + 1) (i + 1 + y.length) y c1 ?_
            | refine Ysl (e := eSm) (l := l) (i + 1 + y.length + 1) (i + 1 + y.length + 1 + n.length) n c2 ?_ | refine Zc (hy) ?_ | refine Zc (hn) ?_ | refine Zd ?_ | refine Ze ?_ | refine Zf ?_ | refine Zh ?_ | refine Zi ?_ | refine Zm ?_
            | refine Zo ?_ | refine ok_seq ?_ | refine ok_reg ?_ | refine Zp ?_ | refine Zq ?_ | refine ok_block ?_ | refine ok_skip ?_ | refine ok_ret ?_ | refine x_normal_then ?_ | refine x_ret_then ?_ | refine x_ret_block ?_ | refine Zt ?_
          exact ret_vb hf
        ·
          repeat' first
            | refine Z1 ?_ | refine Z2 ?_ | refine Z3 ?_ | refine Z5 ?_ | refine Z7 ?_ | refine Z8 ?_ | refine Zc (hps) ?_ | refine Ysl (e := eSm) (l := l) (i + 1) (i + 1 + y.length) y c1 ?_
            | refine Ysl (e := eSm) (l := l) (i + 1 + y.length + 1) (i + 1 + y.length + 1 + n.length) n c2 ?_ | refine Zc (hy) ?_ | refine Zc (hn) ?_ | refine Zd ?_ | refine Ze ?_ | refine Zf ?_ | refine Zh ?_ | refine Zi ?_ | refine Zm ?_
            | refine Zo ?_ | refine ok_seq ?_ | refine ok_reg ?_ | refine Zp ?_ | refine Zq ?_ | refine ok_block ?_ | refine ok_skip ?_ | refine x_normal_then ?_ | refine x_normal_block ?_
          exact ⟨i + 1 + y.length + 1 + n.length + 1, ⟨by omega, hbk.trans hg⟩, by (try simp only); omega, low_mk (Nat.zero_le _) ⟨⟨rfl, rfl⟩, ⟨rfl, rfl⟩, ⟨rfl, rfl⟩, ⟨rfl, rfl⟩, trivial⟩ trivial⟩
    have d4 : decide (s.kind = 4) = false := decide_eq_false k4
    rw [hd, nestV_leaf k4 k5 k6] at i2
    repeat' first
      | refine Z1 ?_ | refine Z2 ?_ | refine Z3 ?_ | refine Z5 ?_ | refine Zd ?_ | refine Ze ?_ | refine Zf ?_ | refine Zo ?_ | refine ok_seq ?_ | refine ok_reg ?_ | refine Zp ?_ | refine Zq ?_ | refine ok_block ?_
      | refine ok_skip ?_ | refine x_normal_then ?_ | refine x_normal_block ?_
    exact ⟨i + 1, ⟨hlt, i2⟩, by (try simp only); omega, low_mk (Nat.zero_le _) ⟨⟨rfl, rfl⟩, ⟨rfl, rfl⟩, ⟨rfl, rfl⟩, ⟨rfl, rfl⟩, trivial⟩ trivial⟩
end Go.Pm
