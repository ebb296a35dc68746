/- Part of the proof. -/
import Derived.Test.YtaabemmnjhgbgaaGreatDoorB1
set_option linter.unusedVariables false
set_option linter.unusedSimpArgs false
namespace Go.Pm
attribute [local irreducible] AR Ok inBlock andThen endQ aoper
set_option maxHeartbeats 1000000
open Go.Proofs
def digitI (c : UInt8) : Bool := decide (48 ≤ (c.toNat : Int)) && decide ((c.toNat : Int) ≤ 57)
def letterI (c : UInt8) : Bool := decide (97 ≤ (c.toNat : Int)) && decide ((c.toNat : Int) ≤ 122) || decide (65 ≤ (c.toNat : Int)) && decide ((c.toNat : Int) ≤ 90)
theorem digit_ok (c : UInt8) : PFun X 75 [.d (.s (.int .u8 c.toNat))] (vb (digitI c)) := by
  refine pfun_of Tryz.func75 rfl (by decide) Tryz.ntmps75 Tryz.results75 (by simp) rfl rfl ?_
  repeat' first
    | refine Z1 ?_ | refine Z2 ?_ | refine Z3 ?_ | refine Z4 ?_ | refine Z5 ?_ | refine Z6 ?_ | refine Z7 ?_ | refine Z8 ?_ | refine Z9 ?_ | refine Za (fun hc => ?_) (fun hc => ?_) | refine Zb (fun hc => ?_) (fun hc => ?_) | refine Zd ?_
    | refine Ze ?_ | refine Zf ?_ | refine Zg ?_ | refine Zh ?_ | refine Zi ?_ | refine Zj ?_ | refine Zk ?_ | refine Zl ?_ | refine Zm ?_ | refine Zn (fun hc => ?_) (fun hc => ?_) | refine Zo ?_ | refine ok_seq ?_ | refine ok_reg ?_
    | refine Zp ?_ | refine Zq ?_ | refine Zr (fun hc => ?_) (fun hc => ?_) | refine ok_block ?_ | refine ok_exit ?_ | refine ok_skip ?_ | refine ok_ret ?_ | refine x_normal_then ?_ | refine x_exit_here ?_ | refine Zs ?_ | refine Zv ?_
    | refine x_ret_then ?_ | refine x_ret_block ?_ | refine x_normal_block ?_ | refine Zt ?_ | refine Zu ?_
  all_goals simp [digitI, *]
theorem letter_ok (c : UInt8) : PFun X 76 [.d (.s (.int .u8 c.toNat))] (vb (letterI c)) := by
  refine pfun_of Tryz.func76 rfl (by decide) Tryz.ntmps76 Tryz.results76 (by simp) rfl rfl ?_
  repeat' first
    | refine Z1 ?_ | refine Z2 ?_ | refine Z3 ?_ | refine Z4 ?_ | refine Z5 ?_ | refine Z6 ?_ | refine Z7 ?_ | refine Z8 ?_ | refine Z9 ?_ | refine Za (fun hc => ?_) (fun hc => ?_) | refine Zb (fun hc => ?_) (fun hc => ?_) | refine Zd ?_
    | refine Ze ?_ | refine Zf ?_ | refine Zg ?_ | refine Zh ?_ | refine Zi ?_ | refine Zj ?_ | refine Zk ?_ | refine Zl ?_ | refine Zm ?_ | refine Zn (fun hc => ?_) (fun hc => ?_) | refine Zo ?_ | refine ok_seq ?_ | refine ok_reg ?_
    | refine Zp ?_ | refine Zq ?_ | refine Zr (fun hc => ?_) (fun hc => ?_) | refine ok_block ?_ | refine ok_exit ?_ | refine ok_skip ?_ | refine ok_ret ?_ | refine x_normal_then ?_ | refine x_exit_here ?_ | refine Zs ?_ | refine Zv ?_
    | refine x_ret_then ?_ | refine x_ret_block ?_ | refine x_normal_block ?_ | refine Zt ?_ | refine Zu ?_
  all_goals simp [letterI, *]
def arityI (op : Int) : Int := if op = 1 ∨ op = 2 ∨ op = 3 ∨ op = 25 then 0 else if op = 4 ∨ op = 5 ∨ op = 21 ∨ op = 22 ∨ op = 23 then 1 else if op = 20 then 3 else 2
theorem arity_ok (op : Int) : PFun X 93 [vi op] (vi (arityI op)) := by
  refine pfun_of Tryz.func93 rfl (by decide) Tryz.ntmps93 Tryz.results93 (by simp) rfl rfl ?_
  repeat' first
    | refine Z1 ?_ | refine Z2 ?_ | refine Z3 ?_ | refine Z4 ?_ | refine Z5 ?_ | refine Z6 ?_ | refine Z7 ?_ | refine Z8 ?_ | refine Z9 ?_ | refine Za (fun hc => ?_) (fun hc => ?_) | refine Zb (fun hc => ?_) (fun hc => ?_) | refine Zd ?_
    | refine Ze ?_ | refine Zf ?_ | refine Zg ?_ | refine Zh ?_ | refine Zi ?_ | refine Zj ?_ | refine Zk ?_ | refine Zl ?_ | refine Zm ?_ | refine Zn (fun hc => ?_) (fun hc => ?_) | refine Zo ?_ | refine ok_seq ?_ | refine ok_reg ?_
    | refine Zp ?_ | refine Zq ?_ | refine Zr (fun hc => ?_) (fun hc => ?_) | refine ok_block ?_ | refine ok_exit ?_ | refine ok_skip ?_ | refine ok_ret ?_ | refine x_normal_then ?_ | refine x_exit_here ?_ | refine Zs ?_ | refine Zv ?_
    | refine x_ret_then ?_ | refine x_ret_block ?_ | refine x_normal_block ?_ | refine Zt ?_ | refine Zu ?_
  all_goals simp only [decide_eq_true_eq, decide_eq_false_iff_not, Bool.not_eq_true, Bool.not_eq_false, Bool.not_eq_eq_eq_not, Bool.not_true, Bool.not_false] at *
  all_goals simp [arityI, *]
end Go.Pm
set_option linter.unusedVariables false
set_option linter.unusedSimpArgs false
namespace Go.Pm
attribute [local irreducible] AR Ok inBlock andThen endQ aoper
set_option maxHeartbeats 1000000
open Go.Proofs
theorem arityI_range (n : Int) : 0 ≤ arityI n ∧ arityI n ≤ 3 := by unfold arityI; split <;> (try split) <;> (try split) <;> omega
def postI : Int → List Itm → Bool
  | h, [] => decide (h = 1)
  | h, x :: l => if h < arityI x.op then false else postI (h + (1 - arityI x.op)) l
theorem postfix_ok (l : List Itm) (hl : l.length < 1099511627776) : PFun X 78 [.d (.im (l.map eItm))] (vb (postI 0 l)) := by
  refine pfun_of Tryz.func78 rfl (by decide) Tryz.ntmps78 Tryz.results78 (by simp) rfl rfl ?_
  repeat' first
    | refine Z1 ?_ | refine Z2 ?_ | refine Z3 ?_ | refine Z4 ?_ | refine Z5 ?_ | refine Z6 ?_ | refine Z7 ?_ | refine Z8 ?_ | refine Z9 ?_ | refine Za (fun hc => ?_) (fun hc => ?_) | refine Zb (fun hc => ?_) (fun hc => ?_) | refine Zd ?_
    | refine Ze ?_ | refine Zf ?_ | refine Zg ?_ | refine Zh ?_ | refine Zi ?_ | refine Zj ?_ | refine Zk ?_ | refine Zl ?_ | refine Zm ?_ | refine Zn (fun hc => ?_) (fun hc => ?_) | refine Zo ?_ | refine ok_seq ?_ | refine ok_reg ?_
    | refine Zp ?_ | refine Zq ?_ | refine Zr (fun hc => ?_) (fun hc => ?_) | refine ok_block ?_ | refine ok_exit ?_ | refine ok_skip ?_ | refine ok_ret ?_ | refine x_normal_then ?_ | refine x_exit_here ?_ | refine Zs ?_ | refine Zv ?_
    | refine x_ret_then ?_ | refine x_ret_block ?_ | refine x_normal_block ?_ | refine Zt ?_ | refine Zu ?_
  refine ok_for (ι := Nat × Int) (fun x => envL [(2, vb false), (3, vi x.2), (7, .d (.im (l.map eItm))), (8, vi l.length), (9, vi x.1)]) (fun x => stL []) (fun x => 0 ≤ x.2 ∧ x.2 ≤ x.1 ∧ x.1 ≤ l.length ∧ postI x.2 (l.drop x.1) = postI 0 l) (fun x => l.length - x.1) (0, 0) (by simp) (weak_mk rfl ⟨.refl _, .refl _, .refl _, .refl _, .refl _, trivial⟩ trivial) (fun _ => Nat.le_refl 0) ?_
  rintro ⟨k, h⟩ ⟨i1, i2, i3, i4⟩
  simp only at i1 i2 i3 i4
  rcases hx : l[k]? with _ | x
  · have hle := none_le hx
    rw [drop_none hx] at i4
    repeat' first
      | refine Z1 ?_ | refine Z2 ?_ | refine Z3 ?_ | refine Z4 ?_ | refine Z5 ?_ | refine Z6 ?_ | refine Z7 ?_ | refine Z8 ?_ | refine Z9 ?_ | refine Za (fun hc => ?_) (fun hc => ?_) | refine Zb (fun hc => ?_) (fun hc => ?_) | refine Zd ?_
      | refine Ze ?_ | refine Zf ?_ | refine Zg ?_ | refine Zh ?_ | refine Zi ?_ | refine Zj ?_ | refine Zk ?_ | refine Zl ?_ | refine Zm ?_ | refine Zn (fun hc => ?_) (fun hc => ?_) | refine Zo ?_ | refine ok_seq ?_ | refine ok_reg ?_
      | refine Zp ?_ | refine Zq ?_ | refine Zr (fun hc => ?_) (fun hc => ?_) | refine ok_block ?_ | refine ok_exit ?_ | refine ok_skip ?_ | refine ok_ret ?_ | refine x_normal_then ?_ | refine x_exit_here ?_ | refine Zs ?_ | refine Zv ?_
      | refine x_ret_then ?_ | refine x_ret_block ?_ | refine x_normal_block ?_ | refine Zt ?_ | refine Zu ?_
    all_goals simp only [decide_eq_true_eq, decide_eq_false_iff_not, Bool.not_eq_true, Bool.not_eq_false, Bool.not_eq_eq_eq_not, Bool.not_true, Bool.not_false] at *
    · omega
    · exact ret_vb i4
  · have hr := arityI_range x.op
    obtain ⟨hd, hlt⟩ := drop_some hx
    rw [hd] at i4
    simp only [postI] at i4
    repeat' first
      | refine Z1 ?_ | refine Z2 ?_ | refine Z3 ?_ | refine Z4 ?_ | refine Z5 ?_ | refine Z6 ?_ | refine Z7 ?_ | refine Z8 ?_ | refine Z9 ?_ | refine Za (fun hc => ?_) (fun hc => ?_) | refine Zb (fun hc => ?_) (fun hc => ?_)
      | refine Zc (arity_ok _) ?_ | refine Zd ?_ | refine Ze ?_ | refine Zf ?_ | refine Zg ?_ | refine Zh ?_ | refine Zi ?_ | refine Zj ?_ | refine Zk ?_ | refine Zl ?_ | refine Zm ?_ | refine Zn (fun hc => ?_) (fun hc => ?_) | refine Zo ?_
      | refine ok_seq ?_ | refine ok_reg ?_ | refine Zp ?_ | refine Zq ?_ | refine Zr (fun hc => ?_) (fun hc => ?_) | refine ok_block ?_ | refine ok_exit ?_ | refine ok_skip ?_ | refine ok_ret ?_ | refine x_normal_then ?_
      | refine x_exit_here ?_ | refine Zs ?_ | refine Zv ?_ | refine x_ret_then ?_ | refine x_ret_block ?_ | refine x_normal_block ?_ | refine Zt ?_ | refine Zu ?_
    all_goals simp only [decide_eq_true_eq, decide_eq_false_iff_not, Bool.not_eq_true, Bool.not_eq_false, Bool.not_eq_eq_eq_not, Bool.not_true, Bool.not_false] at *
    · exact ret_vb (by rw [← i4, if_pos (by assumption)])
    · rw [if_neg (by assumption)] at i4
      exact ⟨(k + 1, h + (1 - arityI x.op)), ⟨by simp only; omega, by simp only; omega, by simp only; omega, i4⟩, by (try simp only); omega, low_mk (Nat.zero_le _) ⟨⟨rfl, rfl⟩, ⟨rfl, rfl⟩, ⟨rfl, rfl⟩, ⟨rfl, rfl⟩, ⟨rfl, rfl⟩, trivial⟩ trivial⟩
    · omega
end Go.Pm
set_option linter.unusedVariables false
set_option linter.unusedSimpArgs false
namespace Go.Pm
attribute [local irreducible] AR Ok inBlock andThen endQ aoper
set_option maxHeartbeats 1000000
open Go.Proofs
def tailI (c : UInt8) : Bool := letterI c || digitI c || decide ((c.toNat : Int) = 95)
def nameI (s : ByteArray) : Bool :=
  match bs s with
  | [] => false
  | c :: r =>
    if 40 < (s.size : Int) then false
    else if (c.toNat : Int) = 36 then
      match r with
      | [] => false
      | d :: _ => if 10 < (s.size : Int) ∨ (d.toNat : Int) = 48 then false else r.all digitI
    else letterI c && !hasWord kwS s && r.all tailI
theorem ne_empty {s : ByteArray} {c : UInt8} {r : List UInt8} (h : bs s = c :: r) : decide (s = ⟨#[]⟩) = false := by
  rw [decide_eq_false_iff_not]
  intro e
  rw [e] at h
  cases h
theorem name_ok (s : ByteArray) : PFun X 50 [vs s] (vb (nameI s)) := by
  have hsz := bs_length s
  refine pfun_of Tryz.func50 rfl (by decide) Tryz.ntmps50 Tryz.results50 (by simp) rfl rfl ?_
  rcases hb : bs s with _ | ⟨c, r⟩
  · have e : decide (s = ⟨#[]⟩) = true := decide_eq_true (bs_inj hb)
    repeat' first
      | refine Z1 ?_ | refine Z2 ?_ | refine Z5 ?_ | refine Z9 ?_ | refine Zl ?_ | refine Zo ?_ | refine ok_seq ?_ | refine Zp ?_ | refine ok_ret ?_ | refine x_ret_then ?_ | refine Zt ?_
    exact ret_vb (by simp [nameI, hb])
  · have h0 : (bs s)[0]? = some c := by rw [hb]; rfl
    have e := ne_empty hb
    rw [hb] at hsz
    simp only [List.length_cons] at hsz
    by_cases hbig : 40 < (s.size : Int)
    · have e2 : decide (40 < (s.size : Int)) = true := decide_eq_true hbig
      repeat' first
        | refine Z1 ?_ | refine Z2 ?_ | refine Z5 ?_ | refine Z7 ?_ | refine Zh ?_ | refine Zi ?_ | refine Zm ?_ | refine Zo ?_ | refine ok_seq ?_ | refine Zp ?_ | refine ok_ret ?_ | refine x_ret_then ?_ | refine Zt ?_
      exact ret_vb (by simp [nameI, hb, hbig])
    have e2 : decide (40 < (s.size : Int)) = false := decide_eq_false hbig
    by_cases h36 : (c.toNat : Int) = 36
    · have e3 : decide ((c.toNat : Int) = 36) = true := decide_eq_true h36
      rcases r with _ | ⟨d, r⟩
      · have e4 : decide ((s.size : Int) < 2) = true := decide_eq_true (by simp at hsz; omega)
        repeat' first
          | refine Z1 ?_ | refine Z2 ?_ | refine Z5 ?_ | refine Z7 ?_ | refine Z9 ?_ | refine op_b rfl rfl h0 rfl rfl rfl ?_ | refine Zh ?_ | refine Zi ?_ | refine Zl ?_ | refine Zm ?_ | refine Zo ?_ | refine ok_seq ?_
          | refine Zp ?_ | refine Zq ?_ | refine ok_skip ?_ | refine ok_ret ?_ | refine x_normal_then ?_ | refine x_ret_then ?_ | refine Zt ?_
        exact ret_vb (by simp [nameI, hb, hbig, h36])
      · have h1 : (bs s)[1]? = some d := by rw [hb]; rfl
        have e4 : decide ((s.size : Int) < 2) = false := decide_eq_false (by simp at hsz; omega)
        by_cases h10 : 10 < (s.size : Int) ∨ (d.toNat : Int) = 48
        · have hn : nameI s = false := by simp [nameI, hb, hbig, h36, h10]
          repeat' first
            | refine Z1 ?_ | refine Z2 ?_ | refine Z5 ?_ | refine Z7 ?_ | refine Z9 ?_ | refine Zb (fun hc => ?_) (fun hc => ?_) | refine op_b rfl rfl h0 rfl rfl rfl ?_ | refine op_b rfl rfl h1 rfl rfl rfl ?_ | refine Zh ?_
            | refine Zi ?_ | refine Zl ?_ | refine Zm ?_ | refine Zo ?_ | refine ok_seq ?_ | refine Zp ?_ | refine Zq ?_ | refine Zr (fun hc => ?_) (fun hc => ?_) | refine ok_block ?_ | refine ok_skip ?_ | refine ok_ret ?_
            | refine x_normal_then ?_ | refine x_ret_then ?_ | refine Zt ?_
          all_goals simp only [decide_eq_true_eq, decide_eq_false_iff_not, Bool.not_eq_true, Bool.not_eq_false, Bool.not_eq_eq_eq_not, Bool.not_true, Bool.not_false] at *
          · exact ret_vb hn.symm
          · omega
          · exact ret_vb hn.symm
        · have e5 : decide (10 < (s.size : Int)) = false := decide_eq_false (by omega)
          have e6 : decide ((d.toNat : Int) = 48) = false := decide_eq_false (by omega)
          have hn : nameI s = (d :: r).all digitI := by simp only [nameI, hb, hbig, h36, h10, if_false, if_true]
          repeat' first
            | refine Z1 ?_ | refine Z2 ?_ | refine Z5 ?_ | refine Z7 ?_ | refine op_b rfl rfl h0 rfl rfl rfl ?_ | refine op_b rfl rfl h1 rfl rfl rfl ?_ | refine Zh ?_ | refine Zi ?_ | refine Zm ?_ | refine Zo ?_ | refine ok_seq ?_
            | refine Zp ?_ | refine Zq ?_ | refine ok_block ?_ | refine ok_skip ?_ | refine x_normal_then ?_
          refine ok_for (ι := Nat) (fun x => envL [(0, vs s), (2, vb false), (3, vi x)]) (fun x => stL []) (fun x => 1 ≤ x ∧ x ≤ s.size ∧ ((bs s).drop x).all digitI = nameI s) (fun x => s.size - x) 1 (⟨by omega, by omega, by rw [hn, hb]; simp⟩) (weak_mk rfl ⟨.refl _, .refl _, .refl _, trivial⟩ trivial) (fun _ => Nat.le_refl 0) ?_
          rintro k ⟨i1, i2, i3⟩
          rcases hx : (bs s)[k]? with _ | x
          · have hle := none_le hx
            rw [bs_length] at hle
            have ek : decide ((k : Int) < (s.size : Int)) = false := decide_eq_false (by omega)
            rw [drop_none hx] at i3
            repeat' first
              | refine Z1 ?_ | refine Z2 ?_ | refine Zo ?_ | refine ok_seq ?_ | refine Zq ?_ | refine ok_exit ?_ | refine ok_ret ?_ | refine x_normal_then ?_ | refine x_exit_here ?_ | refine Zv ?_ | refine x_ret_then ?_
              | refine Zt ?_
            exact ret_vb i3
          · obtain ⟨hd, hlt⟩ := drop_some hx
            rw [bs_length] at hlt
            have ek : decide ((k : Int) < (s.size : Int)) = true := decide_eq_true (by omega)
            rw [hd, List.all_cons] at i3
            cases hdx : digitI x with
            | false =>
              have ex : (!digitI x) = true := by rw [hdx]; rfl
              repeat' first
                | refine Z1 ?_ | refine Z2 ?_ | refine Z5 ?_ | refine op_b rfl rfl hx rfl rfl rfl ?_ | refine Zc (digit_ok _) ?_ | refine Zo ?_ | refine ok_seq ?_ | refine Zp ?_ | refine ok_block ?_ | refine ok_skip ?_
                | refine ok_ret ?_ | refine x_normal_then ?_ | refine x_ret_then ?_ | refine x_ret_block ?_ | refine Zt ?_
              exact ret_vb (by rw [← i3, hdx]; rfl)
            | true =>
              have ex : (!digitI x) = false := by rw [hdx]; rfl
              repeat' first
                | refine Z1 ?_ | refine Z2 ?_ | refine Z5 ?_ | refine op_b rfl rfl hx rfl rfl rfl ?_ | refine Zc (digit_ok _) ?_ | refine Zf ?_ | refine Zo ?_ | refine ok_seq ?_ | refine ok_reg ?_ | refine Zp ?_ | refine Zq ?_
                | refine ok_block ?_ | refine ok_skip ?_ | refine x_normal_then ?_ | refine x_normal_block ?_
              rw [hdx, Bool.true_and] at i3
              exact ⟨k + 1, ⟨by omega, by omega, i3⟩, by (try simp only); omega, low_mk (Nat.zero_le _) ⟨⟨rfl, rfl⟩, ⟨rfl, rfl⟩, ⟨rfl, rfl⟩, trivial⟩ trivial⟩
    · have e3 : decide ((c.toNat : Int) = 36) = false := decide_eq_false h36
      cases hl : letterI c with
      | false =>
        have el : (!letterI c) = true := by rw [hl]; rfl
        repeat' first
          | refine Z1 ?_ | refine Z2 ?_ | refine Z5 ?_ | refine Z7 ?_ | refine Z9 ?_ | refine op_b rfl rfl h0 rfl rfl rfl ?_ | refine Zc (letter_ok _) ?_ | refine Zh ?_ | refine Zi ?_ | refine Zl ?_ | refine Zm ?_ | refine Zo ?_
          | refine ok_seq ?_ | refine Zp ?_ | refine Zq ?_ | refine ok_skip ?_ | refine ok_ret ?_ | refine x_normal_then ?_ | refine x_ret_then ?_ | refine Zt ?_
        exact ret_vb (by simp [nameI, hb, hbig, h36, hl])
      | true =>
        have el : (!letterI c) = false := by rw [hl]; rfl
        cases hw : hasWord kwS s with
        | true =>
          repeat' first
            | refine Z1 ?_ | refine Z2 ?_ | refine Z5 ?_ | refine Z7 ?_ | refine op_b rfl rfl h0 rfl rfl rfl ?_ | refine Zc (letter_ok _) ?_ | refine op_word rfl rfl rfl rfl rfl rfl rfl rfl ?_ | refine Zh ?_ | refine Zi ?_
            | refine Zm ?_ | refine Zo ?_ | refine ok_seq ?_ | refine Zp ?_ | refine Zq ?_ | refine ok_skip ?_ | refine ok_ret ?_ | refine x_normal_then ?_ | refine x_ret_then ?_ | refine Zt ?_
          exact ret_vb (by simp [nameI, hb, hbig, h36, hl, hw])
        | false =>
          have hn : nameI s = r.all tailI := by simp [nameI, hb, hbig, h36, hl, hw]
          repeat' first
            | refine Z1 ?_ | refine Z2 ?_ | refine Z5 ?_ | refine Z7 ?_ | refine op_b rfl rfl h0 rfl rfl rfl ?_ | refine Zc (letter_ok _) ?_ | refine op_word rfl rfl rfl rfl rfl rfl rfl rfl ?_ | refine Zh ?_ | refine Zi ?_
            | refine Zm ?_ | refine Zo ?_ | refine ok_seq ?_ | refine Zq ?_ | refine ok_block ?_ | refine ok_skip ?_ | refine x_normal_then ?_
          refine ok_for (ι := Nat) (fun x => envL [(0, vs s), (2, vb false), (4, vi x)]) (fun x => stL []) (fun x => 1 ≤ x ∧ x ≤ s.size ∧ ((bs s).drop x).all tailI = nameI s) (fun x => s.size - x) 1 (⟨by omega, by omega, by rw [hn, hb]; simp⟩) (weak_mk rfl ⟨.refl _, .refl _, .refl _, trivial⟩ trivial) (fun _ => Nat.le_refl 0) ?_
          rintro k ⟨i1, i2, i3⟩
          rcases hx : (bs s)[k]? with _ | x
          · have hle := none_le hx
            rw [bs_length] at hle
            have ek : decide ((k : Int) < (s.size : Int)) = false := decide_eq_false (by omega)
            rw [drop_none hx] at i3
            repeat' first
              | refine Z1 ?_ | refine Z2 ?_ | refine Zo ?_ | refine ok_seq ?_ | refine Zq ?_ | refine ok_exit ?_ | refine ok_ret ?_ | refine x_normal_then ?_ | refine x_exit_here ?_ | refine Zv ?_ | refine Zt ?_
            exact ret_vb i3
          · obtain ⟨hd, hlt⟩ := drop_some hx
            rw [bs_length] at hlt
            have ek : decide ((k : Int) < (s.size : Int)) = true := decide_eq_true (by omega)
            rw [hd, List.all_cons] at i3
            cases htx : tailI x with
            | false =>
              have htx' := htx
              simp only [tailI, Bool.or_eq_false_iff, decide_eq_false_iff_not] at htx'
              have ex : (!letterI x) = true := by rw [htx'.1.1]; rfl
              have ex2 : (!digitI x) = true := by rw [htx'.1.2]; rfl
              have ex3 : decide ((x.toNat : Int) ≠ 95) = true := decide_eq_true htx'.2
              repeat' first
                | refine Z1 ?_ | refine Z2 ?_ | refine Z5 ?_ | refine Z7 ?_ | refine op_b rfl rfl hx rfl rfl rfl ?_ | refine Zc (digit_ok _) ?_ | refine Zc (letter_ok _) ?_ | refine Zh ?_ | refine Zi ?_ | refine Zl ?_
                | refine Zo ?_ | refine ok_seq ?_ | refine Zp ?_ | refine ok_block ?_ | refine ok_skip ?_ | refine ok_ret ?_ | refine x_normal_then ?_ | refine x_ret_then ?_ | refine x_ret_block ?_ | refine Zt ?_
              exact ret_vb (by rw [← i3, htx]; rfl)
            | true =>
              rw [htx, Bool.true_and] at i3
              repeat' first
                | refine Z1 ?_ | refine Z2 ?_ | refine Z5 ?_ | refine Z7 ?_ | refine Z8 ?_ | refine Za (fun hc => ?_) (fun hc => ?_) | refine op_b rfl rfl hx rfl rfl rfl ?_ | refine Zc (digit_ok _) ?_ | refine Zc (letter_ok _) ?_
                | refine Zf ?_ | refine Zh ?_ | refine Zi ?_ | refine Zl ?_ | refine Zm ?_ | refine Zo ?_ | refine ok_seq ?_ | refine ok_reg ?_ | refine Zp ?_ | refine Zq ?_ | refine Zr (fun hc => ?_) (fun hc => ?_) | refine ok_block ?_
                | refine ok_skip ?_ | refine ok_ret ?_ | refine x_normal_then ?_ | refine x_ret_then ?_ | refine x_ret_block ?_ | refine x_normal_block ?_ | refine Zt ?_
              all_goals first
                | (exact ⟨k + 1, ⟨by omega, by omega, i3⟩, by (try simp only); omega, low_mk (Nat.zero_le _) ⟨⟨rfl, rfl⟩, ⟨rfl, rfl⟩, ⟨rfl, rfl⟩, trivial⟩ trivial⟩)
                | (exfalso; simp_all [tailI])
end Go.Pm
set_option linter.unusedVariables false
set_option linter.unusedSimpArgs false
namespace Go.Pm
attribute [local irreducible] AR Ok inBlock andThen endQ aoper
set_option maxHeartbeats 1000000
open Go.Proofs
def nmI (x : Itm) : Bool := if x.op = 3 ∨ x.op = 23 ∨ x.op = 24 then nameI x.name else decide (x.name = ⟨#[]⟩)
def itemI (x : Itm) : Bool :=
  if x.op < 1 ∨ 24 < x.op then false
  else if x.op = 1 then (if x.val < 0 ∨ 2147483647 < x.val then false else nmI x)
  else if x.op = 2 ∨ x.op = 22 ∨ x.op = 23 then (if x.val ≠ 0 ∧ x.val ≠ 1 then false else nmI x)
  else if x.op = 21 then (if x.val < -2147483647 ∨ 2147483647 < x.val then false else nmI x)
  else if x.val ≠ 0 then false else nmI x
theorem item_ok (x : Itm) : PFun X 77 [.agg ((eItm x).map .d)] (vb (itemI x)) := by
  refine pfun_of Tryz.func77 rfl (by decide) Tryz.ntmps77 Tryz.results77 (by simp) rfl rfl ?_
  repeat' first
    | refine Z1 ?_ | refine Z2 ?_ | refine Z3 ?_ | refine Z4 ?_ | refine Z5 ?_ | refine Z6 ?_ | refine Z7 ?_ | refine Z8 ?_ | refine Z9 ?_ | refine Za (fun hc => ?_) (fun hc => ?_) | refine Zb (fun hc => ?_) (fun hc => ?_)
    | refine Zc (name_ok _) ?_ | refine Zd ?_ | refine Ze ?_ | refine Zf ?_ | refine Zg ?_ | refine Zh ?_ | refine Zi ?_ | refine Zj ?_ | refine Zk ?_ | refine Zl ?_ | refine Zm ?_ | refine Zn (fun hc => ?_) (fun hc => ?_) | refine Zo ?_
    | refine ok_seq ?_ | refine ok_reg ?_ | refine Zp ?_ | refine Zq ?_ | refine Zr (fun hc => ?_) (fun hc => ?_) | refine ok_block ?_ | refine ok_exit ?_ | refine ok_skip ?_ | refine ok_ret ?_ | refine x_normal_then ?_
    | refine x_exit_here ?_ | refine Zs ?_ | refine Zv ?_ | refine x_ret_then ?_ | refine x_ret_block ?_ | refine x_normal_block ?_ | refine Zt ?_ | refine Zu ?_
  all_goals simp only [decide_eq_true_eq, decide_eq_false_iff_not, Bool.not_eq_true, Bool.not_eq_false, Bool.not_eq_eq_eq_not, Bool.not_true, Bool.not_false] at *
  all_goals (refine ret_vb ?_; unfold itemI nmI; grind)
end Go.Pm
