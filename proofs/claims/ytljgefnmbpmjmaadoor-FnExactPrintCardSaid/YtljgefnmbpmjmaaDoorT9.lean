/- Part of the proof. -/
import Derived.Test.YtljgefnmbpmjmaaDoorT8
import Derived.Test.YtljgefnmbpmjmaaDoorT5
import Derived.Below
set_option linter.unusedVariables false
set_option linter.unusedSimpArgs false
namespace Go.Pm
attribute [local irreducible] AR Ok inBlock andThen endQ aoper
set_option maxHeartbeats 1000000
open Go.Proofs
def digitI (c : UInt8) : Bool := decide (48 ≤ (c.toNat : Int)) && decide ((c.toNat : Int) ≤ 57)
def letterI (c : UInt8) : Bool := decide (97 ≤ (c.toNat : Int)) && decide ((c.toNat : Int) ≤ 122) || decide (65 ≤ (c.toNat : Int)) && decide ((c.toNat : Int) ≤ 90)
theorem digit_ok (c : UInt8) : PFun X 75 [.d (.s (.int .u8 c.toNat))] (vb (digitI c)) := by
  refine pfun_of Tryd.func75 rfl (by decide) Tryd.ntmps75 Tryd.results75 (by simp) rfl rfl ?_
  repeat' first
    | refine Z1 ?_ | refine Z2 ?_ | refine Z3 ?_ | refine Z4 ?_ | refine Z5 ?_ | refine Z6 ?_ | refine Z7 ?_ | refine Z8 ?_ | refine Z9 ?_ | refine Za (fun hc => ?_) (fun hc => ?_) | refine Zb (fun hc => ?_) (fun hc => ?_) | refine Zd ?_
    | refine Ze ?_ | refine Zf ?_ | refine Zg ?_ | refine Zh ?_ | refine Zi ?_ | refine Zj ?_ | refine Zk ?_ | refine Zl ?_ | refine Zm ?_ | refine Zn (fun hc => ?_) (fun hc => ?_) | refine Zo ?_ | refine ok_seq ?_ | refine ok_reg ?_
    | refine Zp ?_ | refine Zq ?_ | refine Zr (fun hc => ?_) (fun hc => ?_) | refine ok_block ?_ | refine ok_exit ?_ | refine ok_skip ?_ | refine ok_ret ?_ | refine x_normal_then ?_ | refine x_exit_here ?_ | refine Zs ?_ | refine Zv ?_
    | refine x_ret_then ?_ | refine x_ret_block ?_ | refine x_normal_block ?_ | refine Zt ?_ | refine Zu ?_
  all_goals simp [digitI, *]
theorem letter_ok (c : UInt8) : PFun X 76 [.d (.s (.int .u8 c.toNat))] (vb (letterI c)) := by
  refine pfun_of Tryd.func76 rfl (by decide) Tryd.ntmps76 Tryd.results76 (by simp) rfl rfl ?_
  repeat' first
    | refine Z1 ?_ | refine Z2 ?_ | refine Z3 ?_ | refine Z4 ?_ | refine Z5 ?_ | refine Z6 ?_ | refine Z7 ?_ | refine Z8 ?_ | refine Z9 ?_ | refine Za (fun hc => ?_) (fun hc => ?_) | refine Zb (fun hc => ?_) (fun hc => ?_) | refine Zd ?_
    | refine Ze ?_ | refine Zf ?_ | refine Zg ?_ | refine Zh ?_ | refine Zi ?_ | refine Zj ?_ | refine Zk ?_ | refine Zl ?_ | refine Zm ?_ | refine Zn (fun hc => ?_) (fun hc => ?_) | refine Zo ?_ | refine ok_seq ?_ | refine ok_reg ?_
    | refine Zp ?_ | refine Zq ?_ | refine Zr (fun hc => ?_) (fun hc => ?_) | refine ok_block ?_ | refine ok_exit ?_ | refine ok_skip ?_ | refine ok_ret ?_ | refine x_normal_then ?_ | refine x_exit_here ?_ | refine Zs ?_ | refine Zv ?_
    | refine x_ret_then ?_ | refine x_ret_block ?_ | refine x_normal_block ?_ | refine Zt ?_ | refine Zu ?_
  all_goals simp [letterI, *]
def arityI (op : Int) : Int := if op = 1 ∨ op = 2 ∨ op = 3 ∨ op = 25 then 0 else if op = 4 ∨ op = 5 ∨ op = 21 ∨ op = 22 ∨ op = 23 then 1 else if op = 20 then 3 else 2
theorem arity_ok (op : Int) : PFun X 50 [vi op] (vi (arityI op)) := by
  refine pfun_of Tryd.func50 rfl (by decide) Tryd.ntmps50 Tryd.results50 (by simp) rfl rfl ?_
  repeat' first
    | refine Z1 ?_ | refine Z2 ?_ | refine Z3 ?_ | refine Z4 ?_ | refine Z5 ?_ | refine Z6 ?_ | refine Z7 ?_ | refine Z8 ?_ | refine Z9 ?_ | refine Za (fun hc => ?_) (fun hc => ?_) | refine Zb (fun hc => ?_) (fun hc => ?_) | refine Zd ?_
    | refine Ze ?_ | refine Zf ?_ | refine Zg ?_ | refine Zh ?_ | refine Zi ?_ | refine Zj ?_ | refine Zk ?_ | refine Zl ?_ | refine Zm ?_ | refine Zn (fun hc => ?_) (fun hc => ?_) | refine Zo ?_ | refine ok_seq ?_ | refine ok_reg ?_
    | refine Zp ?_ | refine Zq ?_ | refine Zr (fun hc => ?_) (fun hc => ?_) | refine ok_block ?_ | refine ok_exit ?_ | refine ok_skip ?_ | refine ok_ret ?_ | refine x_normal_then ?_ | refine x_exit_here ?_ | refine Zs ?_ | refine Zv ?_
    | refine x_ret_then ?_ | refine x_ret_block ?_ | refine x_normal_block ?_ | refine Zt ?_ | refine Zu ?_
  all_goals simp only [decide_eq_true_eq, decide_eq_false_iff_not, Bool.not_eq_true, Bool.not_eq_false, Bool.not_eq_eq_eq_not, Bool.not_true, Bool.not_false] at *
  all_goals simp [arityI, *]
end Go.Pm
set_option linter.unusedVariables false
set_option linter.unusedSimpArgs false
namespace Go.Pm
attribute [local irreducible] AR Ok inBlock andThen endQ aoper
set_option maxHeartbeats 1000000
open Go.Proofs
theorem arityI_range (n : Int) : 0 ≤ arityI n ∧ arityI n ≤ 3 := by unfold arityI; split <;> (try split) <;> (try split) <;> omega
def postI : Int → List Itm → Bool
  | h, [] => decide (h = 1)
  | h, x :: l => if h < arityI x.op then false else postI (h + (1 - arityI x.op)) l
theorem postfix_ok (l : List Itm) (hl : l.length < 1099511627776) : PFun X 78 [.d (.im (l.map eItm))] (vb (postI 0 l)) := by
  refine pfun_of Tryd.func78 rfl (by decide) Tryd.ntmps78 Tryd.results78 (by simp) rfl rfl ?_
  repeat' first
    | refine Z1 ?_ | refine Z2 ?_ | refine Z3 ?_ | refine Z4 ?_ | refine Z5 ?_ | refine Z6 ?_ | refine Z7 ?_ | refine Z8 ?_ | refine Z9 ?_ | refine Za (fun hc => ?_) (fun hc => ?_) | refine Zb (fun hc => ?_) (fun hc => ?_) | refine Zd ?_
    | refine Ze ?_ | refine Zf ?_ | refine Zg ?_ | refine Zh ?_ | refine Zi ?_ | refine Zj ?_ | refine Zk ?_ | refine Zl ?_ | refine Zm ?_ | refine Zn (fun hc => ?_) (fun hc => ?_) | refine Zo ?_ | refine ok_seq ?_ | refine ok_reg ?_
    | refine Zp ?_ | refine Zq ?_ | refine Zr (fun hc => ?_) (fun hc => ?_) | refine ok_block ?_ | refine ok_exit ?_ | refine ok_skip ?_ | refine ok_ret ?_ | refine x_normal_then ?_ | refine x_exit_here ?_ | refine Zs ?_ | refine Zv ?_
    | refine x_ret_then ?_ | refine x_ret_block ?_ | refine x_normal_block ?_ | refine Zt ?_ | refine Zu ?_
  refine ok_for (ι := Nat × Int) (fun x => envL [(2, vb false), (3, vi x.2), (7, .d (.im (l.map eItm))), (8, vi l.length), (9, vi x.1)]) (fun x => stL []) (fun x => 0 ≤ x.2 ∧ x.2 ≤ x.1 ∧ x.1 ≤ l.length ∧ postI x.2 (l.drop x.1) = postI 0 l) (fun x => l.length - x.1) (0, 0) (by simp) (weak_mk rfl ⟨.refl _, .refl _, .refl _, .refl _, .refl _, trivial⟩ trivial) (fun _ => Nat.le_refl 0) ?_
  rintro ⟨k, h⟩ ⟨i1, i2, i3, i4⟩
  simp only at i1 i2 i3 i4
  rcases hx : l[k]? with _ | x
  · have hle := none_le hx
    rw [drop_none hx] at i4
    repeat' first
      | refine Z1 ?_ | refine Z2 ?_ | refine Z3 ?_ | refine Z4 ?_ | refine Z5 ?_ | refine Z6 ?_ | refine Z7 ?_ | refine Z8 ?_ | refine Z9 ?_ | refine Za (fun hc => ?_) (fun hc => ?_) | refine Zb (fun hc => ?_) (fun hc => ?_) | refine Zd ?_
      | refine Ze ?_ | refine Zf ?_ | refine Zg ?_ | refine Zh ?_ | refine Zi ?_ | refine Zj ?_ | refine Zk ?_ | refine Zl ?_ | refine Zm ?_ | refine Zn (fun hc => ?_) (fun hc => ?_) | refine Zo ?_ | refine ok_seq ?_ | refine ok_reg ?_
      | refine Zp ?_ | refine Zq ?_ | refine Zr (fun hc => ?_) (fun hc => ?_) | refine ok_block ?_ | refine ok_exit ?_ | refine ok_skip ?_ | refine ok_ret ?_ | refine x_normal_then ?_ | refine x_exit_here ?_ | refine Zs ?_ | refine Zv ?_
      | refine x_ret_then ?_ | refine x_ret_block ?_ | refine x_normal_block ?_ | refine Zt ?_ | refine Zu ?_
    all_goals simp only [decide_eq_true_eq, decide_eq_false_iff_not, Bool.not_eq_true, Bool.not_eq_false, Bool.not_eq_eq_eq_not, Bool.not_true, Bool.not_false] at *
    · omega
    · exact ret_vb i4
  · have hr := arityI_range x.op
    obtain ⟨hd, hlt⟩ := drop_some hx
    rw [hd] at i4
    simp only [postI] at i4
    repeat' first
      | refine Z1 ?_ | refine Z2 ?_ | refine Z3 ?_ | refine Z4 ?_ | refine Z5 ?_ | refine Z6 ?_ | refine Z7 ?_ | refine Z8 ?_ | refine Z9 ?_ | refine Za (fun hc => ?_) (fun hc => ?_) | refine Zb (fun hc => ?_) (fun hc => ?_)
      | refine Zc (arity_ok _) ?_ | refine Zd ?_ | refine Ze ?_ | refine Zf ?_ | refine Zg ?_ | refine Zh ?_ | refine Zi ?_ | refine Zj ?_ | refine Zk ?_ | refine Zl ?_ | refine Zm ?_ | refine Zn (fun hc => ?_) (fun hc => ?_) | refine Zo ?_
      | refine ok_seq ?_ | refine ok_reg ?_ | refine Zp ?_ | refine Zq ?_ | refine Zr (fun hc => ?_) (fun hc => ?_) | refine ok_block ?_ | refine ok_exit ?_ | refine ok_skip ?_ | refine ok_ret ?_ | refine x_normal_then ?_
      | refine x_exit_here ?_ | refine Zs ?_ | refine Zv ?_ | refine x_ret_then ?_ | refine x_ret_block ?_ | refine x_normal_block ?_ | refine Zt ?_ | refine Zu ?_
    all_goals simp only [decide_eq_true_eq, decide_eq_false_iff_not, Bool.not_eq_true, Bool.not_eq_false, Bool.not_eq_eq_eq_not, Bool.not_true, Bool.not_false] at *
    · exact ret_vb (by rw [← i4, if_pos (by assumption)])
    · rw [if_neg (by assumption)] at i4
      exact ⟨(k + 1, h + (1 - arityI x.op)), ⟨by simp only; omega, by simp only; omega, by simp only; omega, i4⟩, by (try simp only); omega, low_mk (Nat.zero_le _) ⟨⟨rfl, rfl⟩, ⟨rfl, rfl⟩, ⟨rfl, rfl⟩, ⟨rfl, rfl⟩, ⟨rfl, rfl⟩, trivial⟩ trivial⟩
    · omega
end Go.Pm
set_option linter.unusedVariables false
set_option linter.unusedSimpArgs false
namespace Go.Pm
attribute [local irreducible] AR Ok inBlock andThen endQ aoper
set_option maxHeartbeats 1000000
open Go.Proofs
def tailI (c : UInt8) : Bool := letterI c || digitI c || decide ((c.toNat : Int) = 95)
def nameI (s : ByteArray) : Bool :=
  match bs s with
  | [] => false
  | c :: r =>
    if 40 < (s.size : Int) then false
    else if (c.toNat : Int) = 36 then
      match r with
      | [] => false
      | d :: _ => if 10 < (s.size : Int) ∨ (d.toNat : Int) = 48 then false else r.all digitI
    else letterI c && !hasWord kwS s && r.all tailI
theorem ne_empty {s : ByteArray} {c : UInt8} {r : List UInt8} (h : bs s = c :: r) : decide (s = ⟨#[]⟩) = false := by
  rw [decide_eq_false_iff_not]
  intro e
  rw [e] at h
  cases h
theorem name_ok (s : ByteArray) : PFun X 46 [vs s] (vb (nameI s)) := by
  have hsz := bs_length s
  refine pfun_of Tryd.func46 rfl (by decide) Tryd.ntmps46 Tryd.results46 (by simp) rfl rfl ?_
  rcases hb : bs s with _ | ⟨c, r⟩
  · have e : decide (s = ⟨#[]⟩) = true := decide_eq_true (bs_inj hb)
    repeat' first
      | refine Z1 ?_ | refine Z2 ?_ | refine Z3 ?_ | refine Z4 ?_ | refine Z5 ?_ | refine Z6 ?_ | refine Z7 ?_ | refine Z8 ?_ | refine Z9 ?_ | refine Za (fun hc => ?_) (fun hc => ?_) | refine Zb (fun hc => ?_) (fun hc => ?_) | refine Zd ?_
      | refine Ze ?_ | refine Zf ?_ | refine Zg ?_ | refine Zh ?_ | refine Zi ?_ | refine Zj ?_ | refine Zk ?_ | refine Zl ?_ | refine Zm ?_ | refine Zn (fun hc => ?_) (fun hc => ?_) | refine Zo ?_ | refine ok_seq ?_ | refine ok_reg ?_
      | refine Zp ?_ | refine Zq ?_ | refine Zr (fun hc => ?_) (fun hc => ?_) | refine ok_block ?_ | refine ok_exit ?_ | refine ok_skip ?_ | refine ok_ret ?_ | refine x_normal_then ?_ | refine x_exit_here ?_ | refine Zs ?_ | refine Zv ?_
      | refine x_ret_then ?_ | refine x_ret_block ?_ | refine x_normal_block ?_ | refine Zt ?_ | refine Zu ?_
    exact ret_vb (by simp [nameI, hb])
  · have h0 : (bs s)[0]? = some c := by rw [hb]; rfl
    have e := ne_empty hb
    rw [hb] at hsz
    simp only [List.length_cons] at hsz
    by_cases hbig : 40 < (s.size : Int)
    · have e2 : decide (40 < (s.size : Int)) = true := decide_eq_true hbig
      repeat' first
        | refine Z1 ?_ | refine Z2 ?_ | refine Z3 ?_ | refine Z4 ?_ | refine Z5 ?_ | refine Z6 ?_ | refine Z7 ?_ | refine Z8 ?_ | refine Z9 ?_ | refine Za (fun hc => ?_) (fun hc => ?_) | refine Zb (fun hc => ?_) (fun hc => ?_)
        | refine Zd ?_ | refine Ze ?_ | refine Zf ?_ | refine Zg ?_ | refine Zh ?_ | refine Zi ?_ | refine Zj ?_ | refine Zk ?_ | refine Zl ?_ | refine Zm ?_ | refine Zn (fun hc => ?_) (fun hc => ?_) | refine Zo ?_ | refine ok_seq ?_
        | refine ok_reg ?_ | refine Zp ?_ | refine Zq ?_ | refine Zr (fun hc => ?_) (fun hc => ?_) | refine ok_block ?_ | refine ok_exit ?_ | refine ok_skip ?_ | refine ok_ret ?_ | refine x_normal_then ?_ | refine x_exit_here ?_
        | refine Zs ?_ | refine Zv ?_ | refine x_ret_then ?_ | refine x_ret_block ?_ | refine x_normal_block ?_ | refine Zt ?_ | refine Zu ?_
      exact ret_vb (by simp [nameI, hb, hbig])
    have e2 : decide (40 < (s.size : Int)) = false := decide_eq_false hbig
    by_cases h36 : (c.toNat : Int) = 36
    · have e3 : decide ((c.toNat : Int) = 36) = true := decide_eq_true h36
      rcases r with _ | ⟨d, r⟩
      · have e4 : decide ((s.size : Int) < 2) = true := decide_eq_true (by simp at hsz; omega)
        repeat' first
          | refine Z1 ?_ | refine Z2 ?_ | refine Z3 ?_ | refine Z4 ?_ | refine Z5 ?_ | refine Z6 ?_ | refine Z7 ?_ | refine Z8 ?_ | refine Z9 ?_ | refine Za (fun hc => ?_) (fun hc => ?_) | refine Zb (fun hc => ?_) (fun hc => ?_)
          | refine op_b rfl rfl h0 rfl rfl rfl ?_ | refine Zd ?_ | refine Ze ?_ | refine Zf ?_ | refine Zg ?_ | refine Zh ?_ | refine Zi ?_ | refine Zj ?_ | refine Zk ?_ | refine Zl ?_ | refine Zm ?_
          | refine Zn (fun hc => ?_) (fun hc => ?_) | refine Zo ?_ | refine ok_seq ?_ | refine ok_reg ?_ | refine Zp ?_ | refine Zq ?_ | refine Zr (fun hc => ?_) (fun hc => ?_) | refine ok_block ?_ | refine ok_exit ?_ | refine ok_skip ?_
          | refine ok_ret ?_ | refine x_normal_then ?_ | refine x_exit_here ?_ | refine Zs ?_ | refine Zv ?_ | refine x_ret_then ?_ | refine x_ret_block ?_ | refine x_normal_block ?_ | refine Zt ?_ | refine Zu ?_
        exact ret_vb (by simp [nameI, hb, hbig, h36])
      · have h1 : (bs s)[1]? = some d := by rw [hb]; rfl
        have e4 : decide ((s.size : Int) < 2) = false := decide_eq_false (by simp at hsz; omega)
        by_cases h10 : 10 < (s.size : Int) ∨ (d.toNat : Int) = 48
        · have hn : nameI s = false := by simp [nameI, hb, hbig, h36, h10]
          repeat' first
            | refine Z1 ?_ | refine Z2 ?_ | refine Z3 ?_ | refine Z4 ?_ | refine Z5 ?_ | refine Z6 ?_ | refine Z7 ?_ | refine Z8 ?_ | refine Z9 ?_ | refine Za (fun hc => ?_) (fun hc => ?_) | refine Zb (fun hc => ?_) (fun hc => ?_)
            | refine op_b rfl rfl h0 rfl rfl rfl ?_ | refine op_b rfl rfl h1 rfl rfl rfl ?_ | refine Zd ?_ | refine Ze ?_ | refine Zf ?_ | refine Zg ?_ | refine Zh ?_ | refine Zi ?_ | refine Zj ?_ | refine Zk ?_ | refine Zl ?_
            | refine Zm ?_ | refine Zn (fun hc => ?_) (fun hc => ?_) | refine Zo ?_ | refine ok_seq ?_ | refine ok_reg ?_ | refine Zp ?_ | refine Zq ?_ | refine Zr (fun hc => ?_) (fun hc => ?_) | refine ok_block ?_ | refine ok_exit ?_
            | refine ok_skip ?_ | refine ok_ret ?_ | refine x_normal_then ?_ | refine x_exit_here ?_ | refine Zs ?_ | refine Zv ?_ | refine x_ret_then ?_ | refine x_ret_block ?_ | refine x_normal_block ?_ | refine Zt ?_ | refine Zu ?_
          all_goals simp only [decide_eq_true_eq, decide_eq_false_iff_not, Bool.not_eq_true, Bool.not_eq_false, Bool.not_eq_eq_eq_not, Bool.not_true, Bool.not_false] at *
          · exact ret_vb hn.symm
          · omega
          · exact ret_vb hn.symm
        · have e5 : decide (10 < (s.size : Int)) = false := decide_eq_false (by omega)
          have e6 : decide ((d.toNat : Int) = 48) = false := decide_eq_false (by omega)
          have hn : nameI s = (d :: r).all digitI := by simp only [nameI, hb, hbig, h36, h10, if_false, if_true]
          repeat' first
            | refine Z1 ?_ | refine Z2 ?_ | refine Z3 ?_ | refine Z4 ?_ | refine Z5 ?_ | refine Z6 ?_ | refine Z7 ?_ | refine Z8 ?_ | refine Z9 ?_ | refine Za (fun hc => ?_) (fun hc => ?_) | refine Zb (fun hc => ?_) (fun hc => ?_)
            | refine op_b rfl rfl h0 rfl rfl rfl ?_ | refine op_b rfl rfl h1 rfl rfl rfl ?_ | refine Zd ?_ | refine Ze ?_ | refine Zf ?_ | refine Zg ?_ | refine Zh ?_ | refine Zi ?_ | refine Zj ?_ | refine Zk ?_ | refine Zl ?_
            | refine Zm ?_ | refine Zn (fun hc => ?_) (fun hc => ?_) | refine Zo ?_ | refine ok_seq ?_ | refine ok_reg ?_ | refine Zp ?_ | refine Zq ?_ | refine Zr (fun hc => ?_) (fun hc => ?_) | refine ok_block ?_ | refine ok_exit ?_
            | refine ok_skip ?_ | refine ok_ret ?_ | refine x_normal_then ?_ | refine x_exit_here ?_ | refine Zs ?_ | refine Zv ?_ | refine x_ret_then ?_ | refine x_ret_block ?_ | refine x_normal_block ?_ | refine Zt ?_ | refine Zu ?_
          refine ok_for (ι := Nat) (fun x => envL [(0, vs s), (2, vb false), (3, vi x)]) (fun x => stL []) (fun x => 1 ≤ x ∧ x ≤ s.size ∧ ((bs s).drop x).all digitI = nameI s) (fun x => s.size - x) 1 (⟨by omega, by omega, by rw [hn, hb]; simp⟩) (weak_mk rfl ⟨.refl _, .refl _, .refl _, trivial⟩ trivial) (fun _ => Nat.le_refl 0) ?_
          rintro k ⟨i1, i2, i3⟩
          rcases hx : (bs s)[k]? with _ | x
          · have hle := none_le hx
            rw [bs_length] at hle
            have ek : decide ((k : Int) < (s.size : Int)) = false := decide_eq_false (by omega)
            rw [drop_none hx] at i3
            repeat' first
              | refine Z1 ?_ | refine Z2 ?_ | refine Z3 ?_ | refine Z4 ?_ | refine Z5 ?_ | refine Z6 ?_ | refine Z7 ?_ | refine Z8 ?_ | refine Z9 ?_ | refine Za (fun hc => ?_) (fun hc => ?_) | refine Zb (fun hc => ?_) (fun hc => ?_)
              | refine Zd ?_ | refine Ze ?_ | refine Zf ?_ | refine Zg ?_ | refine Zh ?_ | refine Zi ?_ | refine Zj ?_ | refine Zk ?_ | refine Zl ?_ | refine Zm ?_ | refine Zn (fun hc => ?_) (fun hc => ?_) | refine Zo ?_ | refine ok_seq ?_
              | refine ok_reg ?_ | refine Zp ?_ | refine Zq ?_ | refine Zr (fun hc => ?_) (fun hc => ?_) | refine ok_block ?_ | refine ok_exit ?_ | refine ok_skip ?_ | refine ok_ret ?_ | refine x_normal_then ?_ | refine x_exit_here ?_
              | refine Zs ?_ | refine Zv ?_ | refine x_ret_then ?_ | refine x_ret_block ?_ | refine x_normal_block ?_ | refine Zt ?_ | refine Zu ?_
            exact ret_vb i3
          · obtain ⟨hd, hlt⟩ := drop_some hx
            rw [bs_length] at hlt
            have ek : decide ((k : Int) < (s.size : Int)) = true := decide_eq_true (by omega)
            rw [hd, List.all_cons] at i3
            cases hdx : digitI x with
            | false =>
              have ex : (!digitI x) = true := by rw [hdx]; rfl
              repeat' first
                | refine Z1 ?_ | refine Z2 ?_ | refine Z3 ?_ | refine Z4 ?_ | refine Z5 ?_ | refine Z6 ?_ | refine Z7 ?_ | refine Z8 ?_ | refine Z9 ?_ | refine Za (fun hc => ?_) (fun hc => ?_) | refine Zb (fun hc => ?_) (fun hc => ?_)
                | refine op_b rfl rfl hx rfl rfl rfl ?_ | refine Zc (digit_ok _) ?_ | refine Zd ?_ | refine Ze ?_ | refine Zf ?_ | refine Zg ?_ | refine Zh ?_ | refine Zi ?_ | refine Zj ?_ | refine Zk ?_ | refine Zl ?_ | refine Zm ?_
                | refine Zn (fun hc => ?_) (fun hc => ?_) | refine Zo ?_ | refine ok_seq ?_ | refine ok_reg ?_ | refine Zp ?_ | refine Zq ?_ | refine Zr (fun hc => ?_) (fun hc => ?_) | refine ok_block ?_ | refine ok_exit ?_
                | refine ok_skip ?_ | refine ok_ret ?_ | refine x_normal_then ?_ | refine x_exit_here ?_ | refine Zs ?_ | refine Zv ?_ | refine x_ret_then ?_ | refine x_ret_block ?_ | refine x_normal_block ?_ | refine Zt ?_ | refine Zu ?_
              exact ret_vb (by rw [← i3, hdx]; rfl)
            | true =>
              have ex : (!digitI x) = false := by rw [hdx]; rfl
              repeat' first
                | refine Z1 ?_ | refine Z2 ?_ | refine Z3 ?_ | refine Z4 ?_ | refine Z5 ?_ | refine Z6 ?_ | refine Z7 ?_ | refine Z8 ?_ | refine Z9 ?_ | refine Za (fun hc => ?_) (fun hc => ?_) | refine Zb (fun hc => ?_) (fun hc => ?_)
                | refine op_b rfl rfl hx rfl rfl rfl ?_ | refine Zc (digit_ok _) ?_ | refine Zd ?_ | refine Ze ?_ | refine Zf ?_ | refine Zg ?_ | refine Zh ?_ | refine Zi ?_ | refine Zj ?_ | refine Zk ?_ | refine Zl ?_ | refine Zm ?_
                | refine Zn (fun hc => ?_) (fun hc => ?_) | refine Zo ?_ | refine ok_seq ?_ | refine ok_reg ?_ | refine Zp ?_ | refine Zq ?_ | refine Zr (fun hc => ?_) (fun hc => ?_) | refine ok_block ?_ | refine ok_exit ?_
                | refine ok_skip ?_ | refine ok_ret ?_ | refine x_normal_then ?_ | refine x_exit_here ?_ | refine Zs ?_ | refine Zv ?_ | refine x_ret_then ?_ | refine x_ret_block ?_ | refine x_normal_block ?_ | refine Zt ?_ | refine Zu ?_
              rw [hdx, Bool.true_and] at i3
              exact ⟨k + 1, ⟨by omega, by omega, i3⟩, by (try simp only); omega, low_mk (Nat.zero_le _) ⟨⟨rfl, rfl⟩, ⟨rfl, rfl⟩, ⟨rfl, rfl⟩, trivial⟩ trivial⟩
    · have e3 : decide ((c.toNat : Int) = 36) = false := decide_eq_false h36
      cases hl : letterI c with
      | false =>
        have el : (!letterI c) = true := by rw [hl]; rfl
        repeat' first
          | refine Z1 ?_ | refine Z2 ?_ | refine Z3 ?_ | refine Z4 ?_ | refine Z5 ?_ | refine Z6 ?_ | refine Z7 ?_ | refine Z8 ?_ | refine Z9 ?_ | refine Za (fun hc => ?_) (fun hc => ?_) | refine Zb (fun hc => ?_) (fun hc => ?_)
          | refine op_b rfl rfl h0 rfl rfl rfl ?_ | refine Zc (letter_ok _) ?_ | refine op_word rfl rfl rfl rfl rfl rfl rfl rfl ?_ | refine Zd ?_ | refine Ze ?_ | refine Zf ?_ | refine Zg ?_ | refine Zh ?_ | refine Zi ?_ | refine Zj ?_
          | refine Zk ?_ | refine Zl ?_ | refine Zm ?_ | refine Zn (fun hc => ?_) (fun hc => ?_) | refine Zo ?_ | refine ok_seq ?_ | refine ok_reg ?_ | refine Zp ?_ | refine Zq ?_ | refine Zr (fun hc => ?_) (fun hc => ?_)
          | refine ok_block ?_ | refine ok_exit ?_ | refine ok_skip ?_ | refine ok_ret ?_ | refine x_normal_then ?_ | refine x_exit_here ?_ | refine Zs ?_ | refine Zv ?_ | refine x_ret_then ?_ | refine x_ret_block ?_
          | refine x_normal_block ?_ | refine Zt ?_ | refine Zu ?_
        exact ret_vb (by simp [nameI, hb, hbig, h36, hl])
      | true =>
        have el : (!letterI c) = false := by rw [hl]; rfl
        cases hw : hasWord kwS s with
        | true =>
          repeat' first
            | refine Z1 ?_ | refine Z2 ?_ | refine Z3 ?_ | refine Z4 ?_ | refine Z5 ?_ | refine Z6 ?_ | refine Z7 ?_ | refine Z8 ?_ | refine Z9 ?_ | refine Za (fun hc => ?_) (fun hc => ?_) | refine Zb (fun hc => ?_) (fun hc => ?_)
            | refine op_b rfl rfl h0 rfl rfl rfl ?_ | refine Zc (letter_ok _) ?_ | refine op_word rfl rfl rfl rfl rfl rfl rfl rfl ?_ | refine Zd ?_ | refine Ze ?_ | refine Zf ?_ | refine Zg ?_ | refine Zh ?_ | refine Zi ?_ | refine Zj ?_
            | refine Zk ?_ | refine Zl ?_ | refine Zm ?_ | refine Zn (fun hc => ?_) (fun hc => ?_) | refine Zo ?_ | refine ok_seq ?_ | refine ok_reg ?_ | refine Zp ?_ | refine Zq ?_ | refine Zr (fun hc => ?_) (fun hc => ?_)
            | refine ok_block ?_ | refine ok_exit ?_ | refine ok_skip ?_ | refine ok_ret ?_ | refine x_normal_then ?_ | refine x_exit_here ?_ | refine Zs ?_ | refine Zv ?_ | refine x_ret_then ?_ | refine x_ret_block ?_
            | refine x_normal_block ?_ | refine Zt ?_ | refine Zu ?_
          exact ret_vb (by simp [nameI, hb, hbig, h36, hl, hw])
        | false =>
          have hn : nameI s = r.all tailI := by simp [nameI, hb, hbig, h36, hl, hw]
          repeat' first
            | refine Z1 ?_ | refine Z2 ?_ | refine Z3 ?_ | refine Z4 ?_ | refine Z5 ?_ | refine Z6 ?_ | refine Z7 ?_ | refine Z8 ?_ | refine Z9 ?_ | refine Za (fun hc => ?_) (fun hc => ?_) | refine Zb (fun hc => ?_) (fun hc => ?_)
            | refine op_b rfl rfl h0 rfl rfl rfl ?_ | refine Zc (letter_ok _) ?_ | refine op_word rfl rfl rfl rfl rfl rfl rfl rfl ?_ | refine Zd ?_ | refine Ze ?_ | refine Zf ?_ | refine Zg ?_ | refine Zh ?_ | refine Zi ?_ | refine Zj ?_
            | refine Zk ?_ | refine Zl ?_ | refine Zm ?_ | refine Zn (fun hc => ?_) (fun hc => ?_) | refine Zo ?_ | refine ok_seq ?_ | refine ok_reg ?_ | refine Zp ?_ | refine Zq ?_ | refine Zr (fun hc => ?_) (fun hc => ?_)
            | refine ok_block ?_ | refine ok_exit ?_ | refine ok_skip ?_ | refine ok_ret ?_ | refine x_normal_then ?_ | refine x_exit_here ?_ | refine Zs ?_ | refine Zv ?_ | refine x_ret_then ?_ | refine x_ret_block ?_
            | refine x_normal_block ?_ | refine Zt ?_ | refine Zu ?_
          refine ok_for (ι := Nat) (fun x => envL [(0, vs s), (2, vb false), (4, vi x)]) (fun x => stL []) (fun x => 1 ≤ x ∧ x ≤ s.size ∧ ((bs s).drop x).all tailI = nameI s) (fun x => s.size - x) 1 (⟨by omega, by omega, by rw [hn, hb]; simp⟩) (weak_mk rfl ⟨.refl _, .refl _, .refl _, trivial⟩ trivial) (fun _ => Nat.le_refl 0) ?_
          rintro k ⟨i1, i2, i3⟩
          rcases hx : (bs s)[k]? with _ | x
          · have hle := none_le hx
            rw [bs_length] at hle
            have ek : decide ((k : Int) < (s.size : Int)) = false := decide_eq_false (by omega)
            rw [drop_none hx] at i3
            repeat' first
              | refine Z1 ?_ | refine Z2 ?_ | refine Z3 ?_ | refine Z4 ?_ | refine Z5 ?_ | refine Z6 ?_ | refine Z7 ?_ | refine Z8 ?_ | refine Z9 ?_ | refine Za (fun hc => ?_) (fun hc => ?_) | refine Zb (fun hc => ?_) (fun hc => ?_)
              | refine Zd ?_ | refine Ze ?_ | refine Zf ?_ | refine Zg ?_ | refine Zh ?_ | refine Zi ?_ | refine Zj ?_ | refine Zk ?_ | refine Zl ?_ | refine Zm ?_ | refine Zn (fun hc => ?_) (fun hc => ?_) | refine Zo ?_ | refine ok_seq ?_
              | refine ok_reg ?_ | refine Zp ?_ | refine Zq ?_ | refine Zr (fun hc => ?_) (fun hc => ?_) | refine ok_block ?_ | refine ok_exit ?_ | refine ok_skip ?_ | refine ok_ret ?_ | refine x_normal_then ?_ | refine x_exit_here ?_
              | refine Zs ?_ | refine Zv ?_ | refine x_ret_then ?_ | refine x_ret_block ?_ | refine x_normal_block ?_ | refine Zt ?_ | refine Zu ?_
            exact ret_vb i3
          · obtain ⟨hd, hlt⟩ := drop_some hx
            rw [bs_length] at hlt
            have ek : decide ((k : Int) < (s.size : Int)) = true := decide_eq_true (by omega)
            rw [hd, List.all_cons] at i3
            cases htx : tailI x with
            | false =>
              have htx' := htx
              simp only [tailI, Bool.or_eq_false_iff, decide_eq_false_iff_not] at htx'
              have ex : (!letterI x) = true := by rw [htx'.1.1]; rfl
              have ex2 : (!digitI x) = true := by rw [htx'.1.2]; rfl
              have ex3 : decide ((x.toNat : Int) ≠ 95) = true := decide_eq_true htx'.2
              repeat' first
                | refine Z1 ?_ | refine Z2 ?_ | refine Z3 ?_ | refine Z4 ?_ | refine Z5 ?_ | refine Z6 ?_ | refine Z7 ?_ | refine Z8 ?_ | refine Z9 ?_ | refine Za (fun hc => ?_) (fun hc => ?_) | refine Zb (fun hc => ?_) (fun hc => ?_)
                | refine op_b rfl rfl hx rfl rfl rfl ?_ | refine Zc (digit_ok _) ?_ | refine Zc (letter_ok _) ?_ | refine Zd ?_ | refine Ze ?_ | refine Zf ?_ | refine Zg ?_ | refine Zh ?_ | refine Zi ?_ | refine Zj ?_ | refine Zk ?_
                | refine Zl ?_ | refine Zm ?_ | refine Zn (fun hc => ?_) (fun hc => ?_) | refine Zo ?_ | refine ok_seq ?_ | refine ok_reg ?_ | refine Zp ?_ | refine Zq ?_ | refine Zr (fun hc => ?_) (fun hc => ?_) | refine ok_block ?_
                | refine ok_exit ?_ | refine ok_skip ?_ | refine ok_ret ?_ | refine x_normal_then ?_ | refine x_exit_here ?_ | refine Zs ?_ | refine Zv ?_ | refine x_ret_then ?_ | refine x_ret_block ?_ | refine x_normal_block ?_
                | refine Zt ?_ | refine Zu ?_
              exact ret_vb (by rw [← i3, htx]; rfl)
            | true =>
              rw [htx, Bool.true_and] at i3
              repeat' first
                | refine Z1 ?_ | refine Z2 ?_ | refine Z3 ?_ | refine Z4 ?_ | refine Z5 ?_ | refine Z6 ?_ | refine Z7 ?_ | refine Z8 ?_ | refine Z9 ?_ | refine Za (fun hc => ?_) (fun hc => ?_) | refine Zb (fun hc => ?_) (fun hc => ?_)
                | refine op_b rfl rfl hx rfl rfl rfl ?_ | refine Zc (digit_ok _) ?_ | refine Zc (letter_ok _) ?_ | refine Zd ?_ | refine Ze ?_ | refine Zf ?_ | refine Zg ?_ | refine Zh ?_ | refine Zi ?_ | refine Zj ?_ | refine Zk ?_
                | refine Zl ?_ | refine Zm ?_ | refine Zn (fun hc => ?_) (fun hc => ?_) | refine Zo ?_ | refine ok_seq ?_ | refine ok_reg ?_ | refine Zp ?_ | refine Zq ?_ | refine Zr (fun hc => ?_) (fun hc => ?_) | refine ok_block ?_
                | refine ok_exit ?_ | refine ok_skip ?_ | refine ok_ret ?_ | refine x_normal_then ?_ | refine x_exit_here ?_ | refine Zs ?_ | refine Zv ?_ | refine x_ret_then ?_ | refine x_ret_block ?_ | refine x_normal_block ?_
                | refine Zt ?_ | refine Zu ?_
              all_goals first
                | (exact ⟨k + 1, ⟨by omega, by omega, i3⟩, by (try simp only); omega, low_mk (Nat.zero_le _) ⟨⟨rfl, rfl⟩, ⟨rfl, rfl⟩, ⟨rfl, rfl⟩, trivial⟩ trivial⟩)
                | (exfalso; simp_all [tailI])
end Go.Pm
set_option linter.unusedVariables false
set_option linter.unusedSimpArgs false
namespace Go.Pm
attribute [local irreducible] AR Ok inBlock andThen endQ aoper
set_option maxHeartbeats 1000000
open Go.Proofs
def nmI (x : Itm) : Bool := if x.op = 3 ∨ x.op = 23 ∨ x.op = 24 then nameI x.name else decide (x.name = ⟨#[]⟩)
def itemI (x : Itm) : Bool :=
  if x.op < 1 ∨ 24 < x.op then false
  else if x.op = 1 then (if x.val < 0 ∨ 2147483647 < x.val then false else nmI x)
  else if x.op = 2 ∨ x.op = 22 ∨ x.op = 23 then (if x.val ≠ 0 ∧ x.val ≠ 1 then false else nmI x)
  else if x.op = 21 then (if x.val < -2147483647 ∨ 2147483647 < x.val then false else nmI x)
  else if x.val ≠ 0 then false else nmI x
theorem item_ok (x : Itm) : PFun X 77 [.agg ((eItm x).map .d)] (vb (itemI x)) := by
  refine pfun_of Tryd.func77 rfl (by decide) Tryd.ntmps77 Tryd.results77 (by simp) rfl rfl ?_
  repeat' first
    | refine Z1 ?_ | refine Z2 ?_ | refine Z3 ?_ | refine Z4 ?_ | refine Z5 ?_ | refine Z6 ?_ | refine Z7 ?_ | refine Z8 ?_ | refine Z9 ?_ | refine Za (fun hc => ?_) (fun hc => ?_) | refine Zb (fun hc => ?_) (fun hc => ?_)
    | refine Zc (name_ok _) ?_ | refine Zd ?_ | refine Ze ?_ | refine Zf ?_ | refine Zg ?_ | refine Zh ?_ | refine Zi ?_ | refine Zj ?_ | refine Zk ?_ | refine Zl ?_ | refine Zm ?_ | refine Zn (fun hc => ?_) (fun hc => ?_) | refine Zo ?_
    | refine ok_seq ?_ | refine ok_reg ?_ | refine Zp ?_ | refine Zq ?_ | refine Zr (fun hc => ?_) (fun hc => ?_) | refine ok_block ?_ | refine ok_exit ?_ | refine ok_skip ?_ | refine ok_ret ?_ | refine x_normal_then ?_
    | refine x_exit_here ?_ | refine Zs ?_ | refine Zv ?_ | refine x_ret_then ?_ | refine x_ret_block ?_ | refine x_normal_block ?_ | refine Zt ?_ | refine Zu ?_
  all_goals simp only [decide_eq_true_eq, decide_eq_false_iff_not, Bool.not_eq_true, Bool.not_eq_false, Bool.not_eq_eq_eq_not, Bool.not_true, Bool.not_false] at *
  all_goals (refine ret_vb ?_; unfold itemI nmI; grind)
end Go.Pm
set_option linter.unusedVariables false
set_option linter.unusedSimpArgs false
namespace Go.Pm
attribute [local irreducible] AR Ok inBlock andThen endQ aoper
set_option maxHeartbeats 1000000
open Go.Proofs
theorem sdigit_ok (c : UInt8) : PFun X 95 [.d (.s (.int .u8 c.toNat))] (vb (digitI c)) := by
  refine pfun_of Tryd.func95 rfl (by decide) Tryd.ntmps95 Tryd.results95 (by simp) rfl rfl ?_
  repeat' first
    | refine Z1 ?_ | refine Z2 ?_ | refine Z5 ?_ | refine Z7 ?_ | refine Z8 ?_ | refine Za (fun hc => ?_) (fun hc => ?_) | refine Zh ?_ | refine Zi ?_ | refine Zl ?_ | refine Zm ?_ | refine Zo ?_ | refine ok_ret ?_ | refine Zt ?_
  all_goals simp [digitI, *]
theorem sletter_ok (c : UInt8) : PFun X 93 [.d (.s (.int .u8 c.toNat))] (vb (letterI c)) := by
  refine pfun_of Tryd.func93 rfl (by decide) Tryd.ntmps93 Tryd.results93 (by simp) rfl rfl ?_
  repeat' first
    | refine Z1 ?_ | refine Z2 ?_ | refine Z5 ?_ | refine Z6 ?_ | refine Z7 ?_ | refine Z8 ?_ | refine Z9 ?_ | refine Za (fun hc => ?_) (fun hc => ?_) | refine Zb (fun hc => ?_) (fun hc => ?_) | refine Zh ?_ | refine Zi ?_ | refine Zl ?_
    | refine Zm ?_ | refine Zo ?_ | refine ok_ret ?_ | refine Zt ?_
  all_goals simp [letterI, *]
def inS (ks : List ByteArray) (s : ByteArray) : Bool := ks.any fun k => decide (k = s)
theorem sin_ok (ks : List ByteArray) (s : ByteArray) (hl : ks.length ≤ 1048576) : PFun X 57 [.d (.im (ks.map eStr)), vs s] (vb (inS ks s)) := by
  refine pfun_of Tryd.func57 rfl (by decide) Tryd.ntmps57 Tryd.results57 (by simp) rfl rfl ?_
  repeat' first
    | refine Z1 ?_ | refine Z2 ?_ | refine Z5 ?_ | refine Zd ?_ | refine Zo ?_ | refine ok_seq ?_ | refine ok_block ?_
  refine ok_for (ι := Nat) (fun x => envL [(1, vs s), (4, vb false), (7, .d (.im (ks.map eStr))), (8, vi ks.length), (9, vi x)]) (fun x => stL []) (fun x => x ≤ ks.length ∧ inS (ks.drop x) s = inS ks s) (fun x => ks.length - x) 0 (⟨Nat.zero_le _, rfl⟩) (weak_mk rfl ⟨.refl _, .refl _, .refl _, .refl _, .refl _, trivial⟩ trivial) (fun _ => Nat.le_refl 0) ?_
  rintro k ⟨i1, i2⟩
  rcases hx : ks[k]? with _ | x
  · have hle := none_le hx
    have ek : decide ((k : Int) < (ks.length : Int)) = false := decide_eq_false (by omega)
    rw [drop_none hx] at i2
    repeat' first
      | refine Z1 ?_ | refine Z2 ?_ | refine Zo ?_ | refine ok_seq ?_ | refine Zq ?_ | refine ok_exit ?_ | refine ok_ret ?_ | refine x_normal_then ?_ | refine x_exit_here ?_ | refine Zv ?_ | refine Zt ?_
    exact ret_vb i2
  · obtain ⟨hd, hlt⟩ := drop_some hx
    have ek : decide ((k : Int) < (ks.length : Int)) = true := decide_eq_true (by omega)
    rw [hd] at i2
    simp only [inS, List.any_cons] at i2
    cases he : decide (x = s) with
    | true =>
      repeat' first
        | refine Z1 ?_ | refine Z2 ?_ | refine Z5 ?_ | refine Ze ?_ | refine Zo ?_ | refine ok_seq ?_ | refine Zp ?_ | refine ok_block ?_ | refine ok_skip ?_ | refine ok_ret ?_ | refine x_normal_then ?_ | refine x_ret_then ?_
        | refine x_ret_block ?_ | refine Zt ?_
      exact ret_vb (by rw [he] at i2; exact i2)
    | false =>
      repeat' first
        | refine Z1 ?_ | refine Z2 ?_ | refine Z5 ?_ | refine Ze ?_ | refine Zf ?_ | refine Zo ?_ | refine ok_seq ?_ | refine ok_reg ?_ | refine Zp ?_ | refine Zq ?_ | refine ok_block ?_ | refine ok_skip ?_ | refine x_normal_then ?_
        | refine x_normal_block ?_
      rw [he, Bool.false_or] at i2
      exact ⟨k + 1, ⟨hlt, i2⟩, by (try simp only); omega, low_mk (Nat.zero_le _) ⟨⟨rfl, rfl⟩, ⟨rfl, rfl⟩, ⟨rfl, rfl⟩, ⟨rfl, rfl⟩, ⟨rfl, rfl⟩, trivial⟩ trivial⟩
def kwSpecBytes : List (List UInt8) := [[110, 111, 100, 101], [114, 101, 116, 117, 114, 110, 115], [118, 97, 114], [108, 101, 116], [116, 101, 108], [105, 110, 116], [98, 111, 111, 108], [119, 104, 101, 110], [119, 104, 101, 110, 111, 116], [105, 102], [116, 104, 101, 110], [101, 108, 115, 101], [102, 98, 121], [109, 101, 114, 103, 101], [116, 114, 117, 101], [102, 97, 108, 115, 101], [97, 110, 100], [111, 114], [120, 111, 114], [110, 111, 116], [109, 111, 100]]
def kwSpec : List ByteArray := kwSpecBytes.map fun l => ⟨l.toArray⟩
theorem skw_ok : PFun X 94 [] (.d (.im (kwSpec.map eStr))) := by
  refine pfun_of Tryd.func94 rfl (by decide) Tryd.ntmps94 Tryd.results94 (by simp) rfl rfl ?_
  repeat' first
    | refine Z1 ?_ | refine Z2 ?_ | refine Z4 ?_ | refine Zo ?_ | refine ok_ret ?_ | refine Zt ?_
  rfl
def plainS (s : ByteArray) : Bool :=
  match bs s with
  | [] => false
  | c :: r => if 40 < (s.size : Int) then false else letterI c && !inS kwSpec s && (c :: r).all tailI
def freshS (s : ByteArray) : Bool :=
  match bs s with
  | c :: d :: r => if 10 < (s.size : Int) ∨ (c.toNat : Int) ≠ 36 ∨ (d.toNat : Int) = 48 then false else (d :: r).all digitI
  | _ => false
def nameS (s : ByteArray) : Bool := plainS s || freshS s
theorem splain_ok (s : ByteArray) : PFun X 68 [vs s] (vb (plainS s)) := by
  have hsz := bs_length s
  refine pfun_of Tryd.func68 rfl (by decide) Tryd.ntmps68 Tryd.results68 (by simp) rfl rfl ?_
  rcases hb : bs s with _ | ⟨c, r⟩
  · rw [hb] at hsz
    have e : decide ((s.size : Int) < 1) = true := decide_eq_true (by simp at hsz; omega)
    repeat' first
      | refine Z1 ?_ | refine Z2 ?_ | refine Z5 ?_ | refine Z9 ?_ | refine Zl ?_ | refine Zo ?_ | refine ok_seq ?_ | refine Zp ?_ | refine ok_ret ?_ | refine x_ret_then ?_ | refine Zt ?_
    exact ret_vb (by simp [plainS, hb])
  · have h0 : (bs s)[0]? = some c := by rw [hb]; rfl
    rw [hb] at hsz
    simp only [List.length_cons] at hsz
    have e : decide ((s.size : Int) < 1) = false := decide_eq_false (by omega)
    by_cases hbig : 40 < (s.size : Int)
    · have e2 : decide (40 < (s.size : Int)) = true := decide_eq_true hbig
      repeat' first
        | refine Z1 ?_ | refine Z2 ?_ | refine Z5 ?_ | refine Z7 ?_ | refine Z9 ?_ | refine Zh ?_ | refine Zi ?_ | refine Zl ?_ | refine Zm ?_ | refine Zo ?_ | refine ok_seq ?_ | refine Zp ?_ | refine ok_ret ?_ | refine x_ret_then ?_
        | refine Zt ?_
      exact ret_vb (by simp [plainS, hb, hbig])
    have e2 : decide (40 < (s.size : Int)) = false := decide_eq_false hbig
    cases hl : letterI c with
    | false =>
      have el : (!letterI c) = true := by rw [hl]; rfl
      repeat' first
        | refine Z1 ?_ | refine Z2 ?_ | refine Z5 ?_ | refine Z7 ?_ | refine Z9 ?_ | refine op_b rfl rfl h0 rfl rfl rfl ?_ | refine Zc (sletter_ok _) ?_ | refine Zh ?_ | refine Zi ?_ | refine Zl ?_ | refine Zm ?_ | refine Zo ?_
        | refine ok_seq ?_ | refine Zp ?_ | refine ok_ret ?_ | refine x_ret_then ?_ | refine Zt ?_
      exact ret_vb (by simp [plainS, hb, hbig, hl])
    | true =>
      have el : (!letterI c) = false := by rw [hl]; rfl
      cases hw : inS kwSpec s with
      | true =>
        repeat' first
          | refine Z1 ?_ | refine Z2 ?_ | refine Z5 ?_ | refine Z7 ?_ | refine op_b rfl rfl h0 rfl rfl rfl ?_ | refine Zc (sletter_ok _) ?_ | refine Zc (skw_ok) ?_ | refine Zc (sin_ok kwSpec s (by decide)) ?_ | refine Zh ?_ | refine Zi ?_
          | refine Zm ?_ | refine Zo ?_ | refine ok_seq ?_ | refine Zp ?_ | refine ok_ret ?_ | refine x_ret_then ?_ | refine Zt ?_
        exact ret_vb (by simp [plainS, hb, hbig, hl, hw])
      | false =>
        have hn : plainS s = (c :: r).all tailI := by simp only [plainS, hb, hbig, hl, hw, if_false]; rfl
        repeat' first
          | refine Z1 ?_ | refine Z2 ?_ | refine Z5 ?_ | refine Z7 ?_ | refine op_b rfl rfl h0 rfl rfl rfl ?_ | refine Zc (sletter_ok _) ?_ | refine Zc (skw_ok) ?_ | refine Zc (sin_ok kwSpec s (by decide)) ?_ | refine Zh ?_ | refine Zi ?_
          | refine Zm ?_ | refine Zo ?_ | refine ok_seq ?_ | refine Zq ?_ | refine ok_block ?_ | refine ok_skip ?_ | refine x_normal_then ?_
        refine ok_for (ι := Nat) (fun x => envL [(0, vs s), (2, vb false), (3, vi x)]) (fun x => stL []) (fun x => x ≤ s.size ∧ ((bs s).drop x).all tailI = plainS s) (fun x => s.size - x) 0 (⟨by omega, by rw [hn, hb]; rfl⟩) (weak_mk rfl ⟨.refl _, .refl _, .refl _, trivial⟩ trivial) (fun _ => Nat.le_refl 0) ?_
        rintro k ⟨i2, i3⟩
        rcases hx : (bs s)[k]? with _ | x
        · have hle := none_le hx
          rw [bs_length] at hle
          have ek : decide ((k : Int) < (s.size : Int)) = false := decide_eq_false (by omega)
          rw [drop_none hx] at i3
          repeat' first
            | refine Z1 ?_ | refine Z2 ?_ | refine Zo ?_ | refine ok_seq ?_ | refine Zq ?_ | refine ok_exit ?_ | refine ok_ret ?_ | refine x_normal_then ?_ | refine x_exit_here ?_ | refine Zv ?_ | refine Zt ?_
          exact ret_vb i3
        · obtain ⟨hd, hlt⟩ := drop_some hx
          rw [bs_length] at hlt
          have ek : decide ((k : Int) < (s.size : Int)) = true := decide_eq_true (by omega)
          rw [hd, List.all_cons] at i3
          cases htx : tailI x with
          | false =>
            have htx' := htx
            simp only [tailI, Bool.or_eq_false_iff, decide_eq_false_iff_not] at htx'
            have ex : (!letterI x) = true := by rw [htx'.1.1]; rfl
            have ex2 : (!digitI x) = true := by rw [htx'.1.2]; rfl
            have ex3 : decide ((x.toNat : Int) ≠ 95) = true := decide_eq_true htx'.2
            repeat' first
              | refine Z1 ?_ | refine Z2 ?_ | refine Z5 ?_ | refine Z7 ?_ | refine op_b rfl rfl hx rfl rfl rfl ?_ | refine Zc (sdigit_ok _) ?_ | refine Zc (sletter_ok _) ?_ | refine Zh ?_ | refine Zi ?_ | refine Zl ?_ | refine Zo ?_
              | refine ok_seq ?_ | refine Zp ?_ | refine ok_block ?_ | refine ok_skip ?_ | refine ok_ret ?_ | refine x_normal_then ?_ | refine x_ret_then ?_ | refine x_ret_block ?_ | refine Zt ?_
            exact ret_vb (by rw [← i3, htx]; rfl)
          | true =>
            rw [htx, Bool.true_and] at i3
            repeat' first
              | refine Z1 ?_ | refine Z2 ?_ | refine Z5 ?_ | refine Z7 ?_ | refine Z8 ?_ | refine Za (fun hc => ?_) (fun hc => ?_) | refine op_b rfl rfl hx rfl rfl rfl ?_ | refine Zc (sdigit_ok _) ?_ | refine Zc (sletter_ok _) ?_
              | refine Zf ?_ | refine Zh ?_ | refine Zi ?_ | refine Zl ?_ | refine Zm ?_ | refine Zo ?_ | refine ok_seq ?_ | refine ok_reg ?_ | refine Zp ?_ | refine Zq ?_ | refine Zr (fun hc => ?_) (fun hc => ?_) | refine ok_block ?_
              | refine ok_skip ?_ | refine ok_ret ?_ | refine x_normal_then ?_ | refine x_ret_then ?_ | refine x_ret_block ?_ | refine x_normal_block ?_ | refine Zt ?_
            all_goals first
              | (exact ⟨k + 1, ⟨by omega, i3⟩, by (try simp only); omega, low_mk (Nat.zero_le _) ⟨⟨rfl, rfl⟩, ⟨rfl, rfl⟩, ⟨rfl, rfl⟩, trivial⟩ trivial⟩)
              | (exfalso; simp_all [tailI])
theorem sfresh_ok (s : ByteArray) : PFun X 69 [vs s] (vb (freshS s)) := by
  have hsz := bs_length s
  refine pfun_of Tryd.func69 rfl (by decide) Tryd.ntmps69 Tryd.results69 (by simp) rfl rfl ?_
  by_cases h2 : (s.size : Int) < 2
  · have e : decide ((s.size : Int) < 2) = true := decide_eq_true h2
    repeat' first
      | refine Z1 ?_ | refine Z2 ?_ | refine Z5 ?_ | refine Z9 ?_ | refine Zl ?_ | refine Zo ?_ | refine ok_seq ?_ | refine Zp ?_ | refine ok_ret ?_ | refine x_ret_then ?_ | refine Zt ?_
    refine ret_vb ?_
    unfold freshS
    split
    · rename_i hb; rw [hb] at hsz; simp only [List.length_cons] at hsz; omega
    · rfl
  · rcases hb : bs s with _ | ⟨c, _ | ⟨d, r⟩⟩
    · rw [hb] at hsz; simp only [List.length_nil] at hsz; omega
    · rw [hb] at hsz; simp only [List.length_cons, List.length_nil] at hsz; omega
    have h0 : (bs s)[0]? = some c := by rw [hb]; rfl
    have h1 : (bs s)[1]? = some d := by rw [hb]; rfl
    rw [hb] at hsz
    simp only [List.length_cons] at hsz
    have e : decide ((s.size : Int) < 2) = false := decide_eq_false h2
    by_cases hbad : 10 < (s.size : Int) ∨ (c.toNat : Int) ≠ 36 ∨ (d.toNat : Int) = 48
    · have hn : freshS s = false := by simp only [freshS, hb, hbad, if_true]
      repeat' first
        | refine Z1 ?_ | refine Z2 ?_ | refine Z5 ?_ | refine Z7 ?_ | refine Z9 ?_ | refine Zb (fun hc => ?_) (fun hc => ?_) | refine op_b rfl rfl h0 rfl rfl rfl ?_ | refine op_b rfl rfl h1 rfl rfl rfl ?_ | refine Zh ?_ | refine Zi ?_
        | refine Zl ?_ | refine Zm ?_ | refine Zo ?_ | refine ok_seq ?_ | refine Zp ?_ | refine Zr (fun hc => ?_) (fun hc => ?_) | refine ok_block ?_ | refine ok_skip ?_ | refine ok_ret ?_ | refine x_normal_then ?_ | refine x_ret_then ?_
        | refine Zt ?_
      all_goals simp only [decide_eq_true_eq, decide_eq_false_iff_not, Bool.not_eq_true, Bool.not_eq_false, Bool.not_eq_eq_eq_not, Bool.not_true, Bool.not_false] at *
      all_goals first
        | exact ret_vb hn.symm
        | (exfalso; omega)
    · have e2 : decide (10 < (s.size : Int)) = false := decide_eq_false (by omega)
      have e3 : decide ((c.toNat : Int) ≠ 36) = false := decide_eq_false (by omega)
      have e4 : decide ((d.toNat : Int) = 48) = false := decide_eq_false (by omega)
      have hn : freshS s = (d :: r).all digitI := by simp only [freshS, hb, hbad, if_false]
      repeat' first
        | refine Z1 ?_ | refine Z2 ?_ | refine Z5 ?_ | refine Z7 ?_ | refine op_b rfl rfl h0 rfl rfl rfl ?_ | refine op_b rfl rfl h1 rfl rfl rfl ?_ | refine Zh ?_ | refine Zi ?_ | refine Zm ?_ | refine Zo ?_ | refine ok_seq ?_ | refine Zq ?_
        | refine ok_block ?_ | refine ok_skip ?_ | refine x_normal_then ?_
      refine ok_for (ι := Nat) (fun x => envL [(0, vs s), (2, vb false), (3, vi x)]) (fun x => stL []) (fun x => 1 ≤ x ∧ x ≤ s.size ∧ ((bs s).drop x).all digitI = freshS s) (fun x => s.size - x) 1 (⟨by omega, by omega, by rw [hn, hb]; simp⟩) (weak_mk rfl ⟨.refl _, .refl _, .refl _, trivial⟩ trivial) (fun _ => Nat.le_refl 0) ?_
      rintro k ⟨i1, i2, i3⟩
      rcases hx : (bs s)[k]? with _ | x
      · have hle := none_le hx
        rw [bs_length] at hle
        have ek : decide ((k : Int) < (s.size : Int)) = false := decide_eq_false (by omega)
        rw [drop_none hx] at i3
        repeat' first
          | refine Z1 ?_ | refine Z2 ?_ | refine Zo ?_ | refine ok_seq ?_ | refine Zq ?_ | refine ok_exit ?_ | refine ok_ret ?_ | refine x_normal_then ?_ | refine x_exit_here ?_ | refine Zv ?_ | refine Zt ?_
        exact ret_vb i3
      · obtain ⟨hd, hlt⟩ := drop_some hx
        rw [bs_length] at hlt
        have ek : decide ((k : Int) < (s.size : Int)) = true := decide_eq_true (by omega)
        rw [hd, List.all_cons] at i3
        cases hdx : digitI x with
        | false =>
          have ex : (!digitI x) = true := by rw [hdx]; rfl
          repeat' first
            | refine Z1 ?_ | refine Z2 ?_ | refine Z5 ?_ | refine op_b rfl rfl hx rfl rfl rfl ?_ | refine Zc (sdigit_ok _) ?_ | refine Zo ?_ | refine ok_seq ?_ | refine Zp ?_ | refine ok_block ?_ | refine ok_skip ?_ | refine ok_ret ?_
            | refine x_normal_then ?_ | refine x_ret_then ?_ | refine x_ret_block ?_ | refine Zt ?_
          exact ret_vb (by rw [← i3, hdx]; rfl)
        | true =>
          have ex : (!digitI x) = false := by rw [hdx]; rfl
          repeat' first
            | refine Z1 ?_ | refine Z2 ?_ | refine Z5 ?_ | refine op_b rfl rfl hx rfl rfl rfl ?_ | refine Zc (sdigit_ok _) ?_ | refine Zf ?_ | refine Zo ?_ | refine ok_seq ?_ | refine ok_reg ?_ | refine Zp ?_ | refine Zq ?_
            | refine ok_block ?_ | refine ok_skip ?_ | refine x_normal_then ?_ | refine x_normal_block ?_
          rw [hdx, Bool.true_and] at i3
          exact ⟨k + 1, ⟨by omega, by omega, i3⟩, by (try simp only); omega, low_mk (Nat.zero_le _) ⟨⟨rfl, rfl⟩, ⟨rfl, rfl⟩, ⟨rfl, rfl⟩, trivial⟩ trivial⟩
theorem sname_ok (s : ByteArray) : PFun X 38 [vs s] (vb (nameS s)) := by
  refine pfun_of Tryd.func38 rfl (by decide) Tryd.ntmps38 Tryd.results38 (by simp) rfl rfl ?_
  cases hp : plainS s with
  | true =>
    repeat' first
      | refine Z1 ?_ | refine Z2 ?_ | refine Z5 ?_ | refine Z9 ?_ | refine Zc (splain_ok s) ?_ | refine Zl ?_ | refine Zo ?_ | refine ok_ret ?_ | refine Zt ?_
    exact ret_vb (by rw [nameS, hp]; rfl)
  | false =>
    repeat' first
      | refine Z1 ?_ | refine Z2 ?_ | refine Z5 ?_ | refine Z7 ?_ | refine Zc (splain_ok s) ?_ | refine Zc (sfresh_ok s) ?_ | refine Zi ?_ | refine Zm ?_ | refine Zo ?_ | refine ok_ret ?_ | refine Zt ?_
    exact ret_vb (by rw [nameS, hp]; rfl)
end Go.Pm
set_option linter.unusedVariables false
set_option linter.unusedSimpArgs false
namespace Go.Pm
attribute [local irreducible] AR Ok inBlock andThen endQ aoper
set_option maxHeartbeats 1000000
open Go.Proofs
def sarityI (op : Int) : Int := if (1 ≤ op ∧ op ≤ 3) ∨ op = 25 then 0 else if op = 4 ∨ op = 5 ∨ op = 21 ∨ op = 22 ∨ op = 23 then 1 else if (6 ≤ op ∧ op ≤ 19) ∨ op = 24 then 2 else if op = 20 then 3 else -1
theorem sarity_ok (op : Int) : PFun X 71 [vi op] (vi (sarityI op)) := by
  refine pfun_of Tryd.func71 rfl (by decide) Tryd.ntmps71 Tryd.results71 (by simp) rfl rfl ?_
  repeat' first
    | refine Z1 ?_ | refine Z2 ?_ | refine Z3 ?_ | refine Z4 ?_ | refine Z5 ?_ | refine Z6 ?_ | refine Z7 ?_ | refine Z8 ?_ | refine Z9 ?_ | refine Za (fun hc => ?_) (fun hc => ?_) | refine Zb (fun hc => ?_) (fun hc => ?_) | refine Zd ?_
    | refine Ze ?_ | refine Zf ?_ | refine Zg ?_ | refine Zh ?_ | refine Zi ?_ | refine Zj ?_ | refine Zk ?_ | refine Zl ?_ | refine Zm ?_ | refine Zn (fun hc => ?_) (fun hc => ?_) | refine Zo ?_ | refine ok_seq ?_ | refine ok_reg ?_
    | refine Zp ?_ | refine Zq ?_ | refine Zr (fun hc => ?_) (fun hc => ?_) | refine ok_block ?_ | refine ok_exit ?_ | refine ok_skip ?_ | refine ok_ret ?_ | refine x_normal_then ?_ | refine x_exit_here ?_ | refine Zs ?_ | refine Zv ?_
    | refine x_ret_then ?_ | refine x_ret_block ?_ | refine x_normal_block ?_ | refine Zt ?_ | refine Zu ?_
  all_goals simp only [decide_eq_true_eq, decide_eq_false_iff_not, Bool.not_eq_true, Bool.not_eq_false, Bool.not_eq_eq_eq_not, Bool.not_true, Bool.not_false] at *
  all_goals (refine ret_vi ?_; unfold sarityI; grind)
theorem sarityI_range (n : Int) : -1 ≤ sarityI n ∧ sarityI n ≤ 3 := by unfold sarityI; grind
def beginS (l : List Itm) : Nat → Int → Int
  | 0, need => if need ≤ 0 then 0 else -1
  | a + 1, need => if need ≤ 0 then ((a + 1 : Nat) : Int) else match l[a]? with
    | none => -1
    | some x => if sarityI x.op < 0 then -1 else beginS l a (need + sarityI x.op - 1)
theorem sbegin_ok (l : List Itm) (e : Nat) (he : e ≤ l.length) (hl : l.length ≤ 1048576) : PFun X 43 [.d (.im (l.map eItm)), vi e] (vi (beginS l e 1)) := by
  refine pfun_of Tryd.func43 rfl (by decide) Tryd.ntmps43 Tryd.results43 (by simp) rfl rfl ?_
  repeat' first
    | refine Z1 ?_ | refine Z2 ?_ | refine Z3 ?_ | refine Z4 ?_ | refine Z5 ?_ | refine Z6 ?_ | refine Z7 ?_ | refine Z8 ?_ | refine Z9 ?_ | refine Za (fun hc => ?_) (fun hc => ?_) | refine Zb (fun hc => ?_) (fun hc => ?_) | refine Zd ?_
    | refine Ze ?_ | refine Zf ?_ | refine Zg ?_ | refine Zh ?_ | refine Zi ?_ | refine Zj ?_ | refine Zk ?_ | refine Zl ?_ | refine Zm ?_ | refine Zn (fun hc => ?_) (fun hc => ?_) | refine Zo ?_ | refine ok_seq ?_ | refine ok_reg ?_
    | refine Zp ?_ | refine Zq ?_ | refine Zr (fun hc => ?_) (fun hc => ?_) | refine ok_block ?_ | refine ok_exit ?_ | refine ok_skip ?_ | refine ok_ret ?_ | refine x_normal_then ?_ | refine x_exit_here ?_ | refine Zs ?_ | refine Zv ?_
    | refine x_ret_then ?_ | refine x_ret_block ?_ | refine x_normal_block ?_ | refine Zt ?_ | refine Zu ?_
  refine ok_for (ι := Nat × Int) (fun x => envL [(0, .d (.im (l.map eItm))), (4, vi 0), (5, vi x.1), (6, vi x.2)]) (fun x => stL []) (fun x => x.1 ≤ l.length ∧ 0 ≤ x.2 ∧ x.2 ≤ 1 + 3 * (l.length - x.1) ∧ beginS l x.1 x.2 = beginS l e 1) (fun x => x.1) (e, 1) (⟨he, by simp only; omega, by simp only; omega, rfl⟩) (weak_mk rfl ⟨.refl _, .refl _, .refl _, .refl _, trivial⟩ trivial) (fun _ => Nat.le_refl 0) ?_
  rintro ⟨a, need⟩ ⟨i1, i2, i3, i4⟩
  simp only at i1 i2 i3 i4
  by_cases hn : 0 < need
  · have en : decide (0 < need) = true := decide_eq_true hn
    cases a with
    | zero =>
      have e1 : decide (((0 : Nat) : Int) - 1 < 0) = true := by decide
      repeat' first
        | refine Z1 ?_ | refine Z2 ?_ | refine Z3 ?_ | refine Z4 ?_ | refine Z5 ?_ | refine Z6 ?_ | refine Z7 ?_ | refine Z8 ?_ | refine Z9 ?_ | refine Za (fun hc => ?_) (fun hc => ?_) | refine Zb (fun hc => ?_) (fun hc => ?_)
        | refine Zd ?_ | refine Ze ?_ | refine Zf ?_ | refine Zg ?_ | refine Zh ?_ | refine Zi ?_ | refine Zj ?_ | refine Zk ?_ | refine Zl ?_ | refine Zm ?_ | refine Zn (fun hc => ?_) (fun hc => ?_) | refine Zo ?_ | refine ok_seq ?_
        | refine ok_reg ?_ | refine Zp ?_ | refine Zq ?_ | refine Zr (fun hc => ?_) (fun hc => ?_) | refine ok_block ?_ | refine ok_exit ?_ | refine ok_skip ?_ | refine ok_ret ?_ | refine x_normal_then ?_ | refine x_exit_here ?_
        | refine Zs ?_ | refine Zv ?_ | refine x_ret_then ?_ | refine x_ret_block ?_ | refine x_normal_block ?_ | refine Zt ?_ | refine Zu ?_
      exact ret_vi (by rw [← i4]; simp only [beginS]; rw [if_neg (by omega)])
    | succ a =>
      have e1 : decide ((a : Int) < 0) = false := decide_eq_false (by omega)
      have hlt : a < l.length := by omega
      obtain ⟨x, hx⟩ : ∃ x, l[a]? = some x := ⟨l[a], by simp [hlt]⟩
      have hr := sarityI_range x.op
      simp only [beginS] at i4
      rw [if_neg (by omega), hx] at i4
      simp only at i4
      by_cases ha : sarityI x.op < 0
      · have ea : decide (sarityI x.op < 0) = true := decide_eq_true ha
        repeat' first
          | refine Z1 ?_ | refine Z2 ?_ | refine Z3 ?_ | refine Z4 ?_ | refine Z5 ?_ | refine Z6 ?_ | refine Z7 ?_ | refine Z8 ?_ | refine Z9 ?_ | refine Za (fun hc => ?_) (fun hc => ?_) | refine Zb (fun hc => ?_) (fun hc => ?_)
          | refine op_subr (r := (a : Int)) rfl rfl (by omega) (by omega) ?_ | refine Zc (sarity_ok _) ?_ | refine Zd ?_ | refine Ze ?_ | refine Zf ?_ | refine Zg ?_ | refine Zh ?_ | refine Zi ?_ | refine Zj ?_ | refine Zk ?_ | refine Zl ?_
          | refine Zm ?_ | refine Zn (fun hc => ?_) (fun hc => ?_) | refine Zo ?_ | refine ok_seq ?_ | refine ok_reg ?_ | refine Zp ?_ | refine Zq ?_ | refine Zr (fun hc => ?_) (fun hc => ?_) | refine ok_block ?_ | refine ok_exit ?_
          | refine ok_skip ?_ | refine ok_ret ?_ | refine x_normal_then ?_ | refine x_exit_here ?_ | refine Zs ?_ | refine Zv ?_ | refine x_ret_then ?_ | refine x_ret_block ?_ | refine x_normal_block ?_ | refine Zt ?_ | refine Zu ?_
        exact ret_vi (by rw [← i4, if_pos ha])
      · have ea : decide (sarityI x.op < 0) = false := decide_eq_false ha
        repeat' first
          | refine Z1 ?_ | refine Z2 ?_ | refine Z3 ?_ | refine Z4 ?_ | refine Z5 ?_ | refine Z6 ?_ | refine Z7 ?_ | refine Z8 ?_ | refine Z9 ?_ | refine Za (fun hc => ?_) (fun hc => ?_) | refine Zb (fun hc => ?_) (fun hc => ?_)
          | refine op_subr (r := (a : Int)) rfl rfl (by omega) (by omega) ?_ | refine Zc (sarity_ok _) ?_ | refine Zd ?_ | refine Ze ?_ | refine Zf ?_ | refine Zg ?_ | refine Zh ?_ | refine Zi ?_ | refine Zj ?_ | refine Zk ?_ | refine Zl ?_
          | refine Zm ?_ | refine Zn (fun hc => ?_) (fun hc => ?_) | refine Zo ?_ | refine ok_seq ?_ | refine ok_reg ?_ | refine Zp ?_ | refine Zq ?_ | refine Zr (fun hc => ?_) (fun hc => ?_) | refine ok_block ?_ | refine ok_exit ?_
          | refine ok_skip ?_ | refine ok_ret ?_ | refine x_normal_then ?_ | refine x_exit_here ?_ | refine Zs ?_ | refine Zv ?_ | refine x_ret_then ?_ | refine x_ret_block ?_ | refine x_normal_block ?_ | refine Zt ?_ | refine Zu ?_
        rw [if_neg ha] at i4
        exact ⟨(a, need + sarityI x.op - 1), ⟨by simp only; omega, by simp only; omega, by simp only; omega, i4⟩, by (try simp only); omega, low_mk (Nat.zero_le _) ⟨⟨rfl, rfl⟩, ⟨rfl, rfl⟩, ⟨rfl, rfl⟩, ⟨rfl, rfl⟩, trivial⟩ trivial⟩
  · have en : decide (0 < need) = false := decide_eq_false hn
    repeat' first
      | refine Z1 ?_ | refine Z2 ?_ | refine Z3 ?_ | refine Z4 ?_ | refine Z5 ?_ | refine Z6 ?_ | refine Z7 ?_ | refine Z8 ?_ | refine Z9 ?_ | refine Za (fun hc => ?_) (fun hc => ?_) | refine Zb (fun hc => ?_) (fun hc => ?_) | refine Zd ?_
      | refine Ze ?_ | refine Zf ?_ | refine Zg ?_ | refine Zh ?_ | refine Zi ?_ | refine Zj ?_ | refine Zk ?_ | refine Zl ?_ | refine Zm ?_ | refine Zn (fun hc => ?_) (fun hc => ?_) | refine Zo ?_ | refine ok_seq ?_ | refine ok_reg ?_
      | refine Zp ?_ | refine Zq ?_ | refine Zr (fun hc => ?_) (fun hc => ?_) | refine ok_block ?_ | refine ok_exit ?_ | refine ok_skip ?_ | refine ok_ret ?_ | refine x_normal_then ?_ | refine x_exit_here ?_ | refine Zs ?_ | refine Zv ?_
      | refine x_ret_then ?_ | refine x_ret_block ?_ | refine x_normal_block ?_ | refine Zt ?_ | refine Zu ?_
    refine ret_vi ?_
    rw [← i4]
    cases a with
    | zero => simp only [beginS]; rw [if_pos (by omega)]; rfl
    | succ a => simp only [beginS]; rw [if_pos (by omega)]
def itemS (x : Itm) : Bool :=
  if (decide (x.op = 3 ∨ x.op = 23 ∨ x.op = 24) != decide (x.name ≠ ⟨#[]⟩)) || (decide (x.op = 3 ∨ x.op = 23 ∨ x.op = 24) && !nameS x.name) then false
  else if x.op = 1 then decide (0 ≤ x.val) && decide (x.val ≤ 2147483647)
  else if x.op = 2 ∨ x.op = 22 ∨ x.op = 23 then decide (0 ≤ x.val) && decide (x.val ≤ 1)
  else if x.op = 21 then decide (-2147483647 ≤ x.val) && decide (x.val ≤ 2147483647)
  else if x.op = 25 then true
  else decide (0 ≤ x.val) && decide (x.val ≤ 0)
set_option maxHeartbeats 1000000 in
theorem sitem_ok (x : Itm) : PFun X 96 [.agg ((eItm x).map .d)] (vb (itemS x)) := by
  refine pfun_of Tryd.func96 rfl (by decide) Tryd.ntmps96 Tryd.results96 (by simp) rfl rfl ?_
  repeat' first
    | refine Z1 ?_ | refine Z2 ?_ | refine Z3 ?_ | refine Z4 ?_ | refine Z5 ?_ | refine Z6 ?_ | refine Z7 ?_ | refine Z8 ?_ | refine Z9 ?_ | refine Za (fun hc => ?_) (fun hc => ?_) | refine Zb (fun hc => ?_) (fun hc => ?_)
    | refine Zc (sname_ok _) ?_ | refine Zd ?_ | refine Ze ?_ | refine Zf ?_ | refine Zg ?_ | refine Zh ?_ | refine Zi ?_ | refine Zj ?_ | refine Zk ?_ | refine Zl ?_ | refine Zm ?_ | refine Zn (fun hc => ?_) (fun hc => ?_) | refine Zo ?_
    | refine ok_seq ?_ | refine ok_reg ?_ | refine Zp ?_ | refine Zq ?_ | refine Zr (fun hc => ?_) (fun hc => ?_) | refine ok_block ?_ | refine ok_exit ?_ | refine ok_skip ?_ | refine ok_ret ?_ | refine x_normal_then ?_
    | refine x_exit_here ?_ | refine Zs ?_ | refine Zv ?_ | refine x_ret_then ?_ | refine x_ret_block ?_ | refine x_normal_block ?_ | refine Zt ?_ | refine Zu ?_
  all_goals (refine ret_vb ?_; unfold itemS; grind)
def codeS (l : List Itm) (most : Int) : Bool := if (l.length : Int) < 1 ∨ most < (l.length : Int) ∨ beginS l l.length 1 ≠ 0 then false else l.all itemS
theorem scode_ok (l : List Itm) (most : Int) (hl : l.length ≤ 1048576) : PFun X 70 [.d (.im (l.map eItm)), vi most] (vb (codeS l most)) := by
  refine pfun_of Tryd.func70 rfl (by decide) Tryd.ntmps70 Tryd.results70 (by simp) rfl rfl ?_
  by_cases hbad : (l.length : Int) < 1 ∨ most < (l.length : Int) ∨ beginS l l.length 1 ≠ 0
  · have hn : codeS l most = false := by simp only [codeS, hbad, if_true]
    repeat' first
      | refine Z1 ?_ | refine Z2 ?_ | refine Z3 ?_ | refine Z4 ?_ | refine Z5 ?_ | refine Z6 ?_ | refine Z7 ?_ | refine Z8 ?_ | refine Z9 ?_ | refine Za (fun hc => ?_) (fun hc => ?_) | refine Zb (fun hc => ?_) (fun hc => ?_)
      | refine Zc (sbegin_ok l l.length (Nat.le_refl _) hl) ?_ | refine Zd ?_ | refine Ze ?_ | refine Zf ?_ | refine Zg ?_ | refine Zh ?_ | refine Zi ?_ | refine Zj ?_ | refine Zk ?_ | refine Zl ?_ | refine Zm ?_
      | refine Zn (fun hc => ?_) (fun hc => ?_) | refine Zo ?_ | refine ok_seq ?_ | refine ok_reg ?_ | refine Zp ?_ | refine Zq ?_ | refine Zr (fun hc => ?_) (fun hc => ?_) | refine ok_block ?_ | refine ok_exit ?_ | refine ok_skip ?_
      | refine ok_ret ?_ | refine x_normal_then ?_ | refine x_exit_here ?_ | refine Zs ?_ | refine Zv ?_ | refine x_ret_then ?_ | refine x_ret_block ?_ | refine x_normal_block ?_ | refine Zt ?_ | refine Zu ?_
    all_goals simp only [decide_eq_true_eq, decide_eq_false_iff_not, Bool.not_eq_true, Bool.not_eq_false, Bool.not_eq_eq_eq_not, Bool.not_true, Bool.not_false] at *
    all_goals first
      | exact ret_vb hn.symm
      | (exfalso; omega)
  · have e1 : decide ((l.length : Int) < 1) = false := decide_eq_false (by omega)
    have e2 : decide (most < (l.length : Int)) = false := decide_eq_false (by omega)
    have e3 : decide (beginS l l.length 1 ≠ 0) = false := decide_eq_false (by omega)
    have hn : codeS l most = l.all itemS := by simp only [codeS, hbad, if_false]
    repeat' first
      | refine Z1 ?_ | refine Z2 ?_ | refine Z3 ?_ | refine Z4 ?_ | refine Z5 ?_ | refine Z6 ?_ | refine Z7 ?_ | refine Z8 ?_ | refine Z9 ?_ | refine Za (fun hc => ?_) (fun hc => ?_) | refine Zb (fun hc => ?_) (fun hc => ?_)
      | refine Zc (sbegin_ok l l.length (Nat.le_refl _) hl) ?_ | refine Zd ?_ | refine Ze ?_ | refine Zf ?_ | refine Zg ?_ | refine Zh ?_ | refine Zi ?_ | refine Zj ?_ | refine Zk ?_ | refine Zl ?_ | refine Zm ?_
      | refine Zn (fun hc => ?_) (fun hc => ?_) | refine Zo ?_ | refine ok_seq ?_ | refine ok_reg ?_ | refine Zp ?_ | refine Zq ?_ | refine Zr (fun hc => ?_) (fun hc => ?_) | refine ok_block ?_ | refine ok_exit ?_ | refine ok_skip ?_
      | refine ok_ret ?_ | refine x_normal_then ?_ | refine x_exit_here ?_ | refine Zs ?_ | refine Zv ?_ | refine x_ret_then ?_ | refine x_ret_block ?_ | refine x_normal_block ?_ | refine Zt ?_ | refine Zu ?_
    refine ok_for (ι := Nat) (fun x => envL [(4, vb false), (23, .d (.im (l.map eItm))), (24, vi l.length), (25, vi x)]) (fun x => stL []) (fun x => x ≤ l.length ∧ (l.drop x).all itemS = codeS l most) (fun x => l.length - x) 0 (⟨by omega, by rw [hn]; simp⟩) (weak_mk rfl ⟨.refl _, .refl _, .refl _, .refl _, trivial⟩ trivial) (fun _ => Nat.le_refl 0) ?_
    rintro k ⟨i1, i2⟩
    rcases hx : l[k]? with _ | x
    · have hle := none_le hx
      have ek : decide ((k : Int) < (l.length : Int)) = false := decide_eq_false (by omega)
      rw [drop_none hx] at i2
      repeat' first
        | refine Z1 ?_ | refine Z2 ?_ | refine Z3 ?_ | refine Z4 ?_ | refine Z5 ?_ | refine Z6 ?_ | refine Z7 ?_ | refine Z8 ?_ | refine Z9 ?_ | refine Za (fun hc => ?_) (fun hc => ?_) | refine Zb (fun hc => ?_) (fun hc => ?_)
        | refine Zd ?_ | refine Ze ?_ | refine Zf ?_ | refine Zg ?_ | refine Zh ?_ | refine Zi ?_ | refine Zj ?_ | refine Zk ?_ | refine Zl ?_ | refine Zm ?_ | refine Zn (fun hc => ?_) (fun hc => ?_) | refine Zo ?_ | refine ok_seq ?_
        | refine ok_reg ?_ | refine Zp ?_ | refine Zq ?_ | refine Zr (fun hc => ?_) (fun hc => ?_) | refine ok_block ?_ | refine ok_exit ?_ | refine ok_skip ?_ | refine ok_ret ?_ | refine x_normal_then ?_ | refine x_exit_here ?_
        | refine Zs ?_ | refine Zv ?_ | refine x_ret_then ?_ | refine x_ret_block ?_ | refine x_normal_block ?_ | refine Zt ?_ | refine Zu ?_
      exact ret_vb i2
    · obtain ⟨hd, hlt⟩ := drop_some hx
      have ek : decide ((k : Int) < (l.length : Int)) = true := decide_eq_true (by omega)
      rw [hd, List.all_cons] at i2
      cases hdx : itemS x with
      | false =>
        have ex : (!itemS x) = true := by rw [hdx]; rfl
        repeat' first
          | refine Z1 ?_ | refine Z2 ?_ | refine Z3 ?_ | refine Z4 ?_ | refine Z5 ?_ | refine Z6 ?_ | refine Z7 ?_ | refine Z8 ?_ | refine Z9 ?_ | refine Za (fun hc => ?_) (fun hc => ?_) | refine Zb (fun hc => ?_) (fun hc => ?_)
          | refine Zc (sitem_ok x) ?_ | refine Zd ?_ | refine Ze ?_ | refine Zf ?_ | refine Zg ?_ | refine Zh ?_ | refine Zi ?_ | refine Zj ?_ | refine Zk ?_ | refine Zl ?_ | refine Zm ?_ | refine Zn (fun hc => ?_) (fun hc => ?_)
          | refine Zo ?_ | refine ok_seq ?_ | refine ok_reg ?_ | refine Zp ?_ | refine Zq ?_ | refine Zr (fun hc => ?_) (fun hc => ?_) | refine ok_block ?_ | refine ok_exit ?_ | refine ok_skip ?_ | refine ok_ret ?_ | refine x_normal_then ?_
          | refine x_exit_here ?_ | refine Zs ?_ | refine Zv ?_ | refine x_ret_then ?_ | refine x_ret_block ?_ | refine x_normal_block ?_ | refine Zt ?_ | refine Zu ?_
        exact ret_vb (by rw [← i2, hdx]; rfl)
      | true =>
        have ex : (!itemS x) = false := by rw [hdx]; rfl
        repeat' first
          | refine Z1 ?_ | refine Z2 ?_ | refine Z3 ?_ | refine Z4 ?_ | refine Z5 ?_ | refine Z6 ?_ | refine Z7 ?_ | refine Z8 ?_ | refine Z9 ?_ | refine Za (fun hc => ?_) (fun hc => ?_) | refine Zb (fun hc => ?_) (fun hc => ?_)
          | refine Zc (sitem_ok x) ?_ | refine Zd ?_ | refine Ze ?_ | refine Zf ?_ | refine Zg ?_ | refine Zh ?_ | refine Zi ?_ | refine Zj ?_ | refine Zk ?_ | refine Zl ?_ | refine Zm ?_ | refine Zn (fun hc => ?_) (fun hc => ?_)
          | refine Zo ?_ | refine ok_seq ?_ | refine ok_reg ?_ | refine Zp ?_ | refine Zq ?_ | refine Zr (fun hc => ?_) (fun hc => ?_) | refine ok_block ?_ | refine ok_exit ?_ | refine ok_skip ?_ | refine ok_ret ?_ | refine x_normal_then ?_
          | refine x_exit_here ?_ | refine Zs ?_ | refine Zv ?_ | refine x_ret_then ?_ | refine x_ret_block ?_ | refine x_normal_block ?_ | refine Zt ?_ | refine Zu ?_
        rw [hdx, Bool.true_and] at i2
        exact ⟨k + 1, ⟨by omega, i2⟩, by (try simp only); omega, low_mk (Nat.zero_le _) ⟨⟨rfl, rfl⟩, ⟨rfl, rfl⟩, ⟨rfl, rfl⟩, ⟨rfl, rfl⟩, trivial⟩ trivial⟩
end Go.Pm
/- Plain law: the program's names are the specification's names. -/
set_option linter.unusedVariables false
set_option linter.unusedSimpArgs false
namespace Go.Pm
theorem kw_eq (s : ByteArray) : hasWord kwS s = inS kwSpec s := by
  have h1 : ∀ x ∈ kwBytes, x ∈ kwSpecBytes := by decide
  have h2 : ∀ x ∈ kwSpecBytes, x ∈ kwBytes := by decide
  rw [Bool.eq_iff_iff]
  simp only [hasWord, inS, List.any_eq_true, decide_eq_true_eq]
  constructor
  · rintro ⟨x, hx, rfl⟩
    obtain ⟨y, hy, rfl⟩ := List.mem_map.1 hx
    exact ⟨_, List.mem_map.2 ⟨y, h1 y hy, rfl⟩, rfl⟩
  · rintro ⟨x, hx, rfl⟩
    obtain ⟨y, hy, rfl⟩ := List.mem_map.1 hx
    exact ⟨_, List.mem_map.2 ⟨y, h2 y hy, rfl⟩, rfl⟩
theorem name_eq (s : ByteArray) : nameI s = nameS s := by
  have hsz := bs_length s
  unfold nameI nameS plainS freshS
  rw [kw_eq]
  rcases hb : bs s with _ | ⟨c, _ | ⟨d, r⟩⟩
  · rfl
  · simp only [hb, List.length_cons, List.length_nil] at hsz
    by_cases h36 : (c.toNat : Int) = 36
    · have hl : letterI c = false := by simp [letterI, h36]
      simp [h36, hl]
    · by_cases hbig : 40 < (s.size : Int)
      · simp [hbig]
      · simp only [hbig, h36, if_false, List.all_cons, List.all_nil, Bool.or_false, Bool.and_true]
        cases hl : letterI c <;> simp [tailI, hl]
  · simp only [hb, List.length_cons] at hsz
    by_cases hbig : 40 < (s.size : Int)
    · have h10 : 10 < (s.size : Int) := by omega
      simp [hbig, h10]
    · by_cases h36 : (c.toNat : Int) = 36
      · have hl : letterI c = false := by simp [letterI, h36]
        simp [hbig, h36, hl]
      · simp only [hbig, h36, if_false, List.all_cons]
        cases hl : letterI c <;> simp [tailI, hl, h36]
def opOK (x : Itm) : Prop := 1 ≤ x.op ∧ x.op ≤ 24
theorem item_eq (x : Itm) : itemI x = (itemS x && (!decide (x.op = 25)) && decide (1 ≤ x.op ∧ x.op ≤ 24)) := by
  unfold itemI itemS nmI
  rw [name_eq]
  have hns : x.name = ⟨#[]⟩ → nameS x.name = false := fun h => by rw [h]; rfl
  grind
end Go.Pm
/- Plain law: codes. -/
set_option linter.unusedVariables false
set_option linter.unusedSimpArgs false
namespace Go.Pm
def postG : Int → List Itm → Int → Bool
  | h, [], t => decide (h = t)
  | h, x :: l, t => if h < arityI x.op then false else postG (h + (1 - arityI x.op)) l t
theorem postG_one (l : List Itm) : ∀ h, postI h l = postG h l 1 := by
  induction l with
  | nil => intro h; rfl
  | cons x l ih => intro h; simp only [postI, postG, ih]
theorem postG_snoc (x : Itm) (t : Int) : ∀ (l : List Itm) (h : Int), postG h (l ++ [x]) t = (postG h l (t + arityI x.op - 1) && decide (1 ≤ t))
  | [], h => by
    simp only [List.nil_append, postG]
    by_cases h1 : h < arityI x.op
    · rw [if_pos h1]
      by_cases h2 : h = t + arityI x.op - 1
      · simp only [h2, decide_true, Bool.true_and]
        symm; rw [decide_eq_false_iff_not]; omega
      · simp [h2]
    · rw [if_neg h1, Bool.eq_iff_iff]
      simp only [decide_eq_true_eq, Bool.and_eq_true]
      constructor
      · intro h2; omega
      · intro h2; omega
  | y :: l, h => by
    simp only [List.cons_append, postG]
    split
    · rfl
    · exact postG_snoc x t l _
theorem postG_pos : ∀ (l : List Itm) (h t : Int), l ≠ [] → postG h l t = true → 1 ≤ t
  | [], h, t, hl, _ => absurd rfl hl
  | [x], h, t, _, hp => by
    simp only [postG] at hp
    split at hp
    · cases hp
    · simp only [decide_eq_true_eq] at hp; omega
  | x :: y :: l, h, t, _, hp => by
    simp only [postG] at hp
    split at hp
    · cases hp
    · exact postG_pos (y :: l) _ t (by simp) (by simpa only [postG] using hp)
theorem arity_eq {op : Int} (h : 1 ≤ op ∧ op ≤ 25) : sarityI op = arityI op := by unfold sarityI arityI; grind
theorem begin_post (l : List Itm) (hall : ∀ x ∈ l, 1 ≤ x.op ∧ x.op ≤ 25) : ∀ (n : Nat) (need : Int), n ≤ l.length → 1 ≤ need → (beginS l n need = 0 ↔ postG 0 (l.take n) need = true)
  | 0, need, _, hn => by
    simp only [beginS, List.take_zero, postG, decide_eq_true_eq]
    rw [if_neg (by omega)]
    omega
  | n + 1, need, hl, hn => by
    have hlt : n < l.length := by omega
    have hx : l[n]? = some l[n] := by simp [hlt]
    have hop := hall l[n] (List.getElem_mem hlt)
    have har := arityI_range l[n].op
    simp only [beginS]
    rw [if_neg (by omega), hx]
    simp only
    rw [arity_eq hop, if_neg (by omega), List.take_add_one, hx]
    simp only [Option.toList_some]
    rw [postG_snoc]
    simp only [Bool.and_eq_true, decide_eq_true_eq, hn, and_true]
    by_cases h1 : 1 ≤ need + arityI l[n].op - 1
    · exact begin_post l hall n _ (by omega) h1
    · have h0 : need + arityI l[n].op - 1 = 0 := by omega
      rw [h0]
      cases n with
      | zero => simp [beginS, postG]
      | succ m =>
        simp only [beginS]
        rw [if_pos (by omega)]
        constructor
        · intro h; omega
        · intro h
          have := postG_pos _ _ _ (by intro he; have := congrArg List.length he; simp only [List.length_take, List.length_nil] at this; omega) h
          omega
theorem begin_ops (l : List Itm) : ∀ (n : Nat) (need : Int), beginS l n need = 0 → ∀ j x, j < n → l[j]? = some x → 0 ≤ sarityI x.op
  | 0, need, _, j, x, hj, _ => by omega
  | n + 1, need, h, j, x, hj, hx => by
    simp only [beginS] at h
    split at h
    · omega
    · split at h
      · omega
      · rename_i y hy
        split at h
        · omega
        · rename_i hs
          by_cases hjn : j = n
          · subst hjn; rw [hy] at hx; cases hx; omega
          · exact begin_ops l n _ h j x (by omega) hx
end Go.Pm
/- Codes as trees: the tree that a stack builds of a code, and where its parts begin. No program in sight. -/
set_option linter.unusedVariables false
set_option linter.unusedSimpArgs false
namespace Go.Pm
inductive Tm where
  | mk (x : Itm) (i : Nat) (ks : List Tm)
mutual
def flat : Tm → List Itm
  | .mk x _ ks => flatL ks ++ [x]
def flatL : List Tm → List Itm
  | [] => []
  | t :: ts => flat t ++ flatL ts
end
mutual
def wfT : Tm → Prop
  | .mk x _ ks => (ks.length : Int) = sarityI x.op ∧ wfL ks
def wfL : List Tm → Prop
  | [] => True
  | t :: ts => wfT t ∧ wfL ts
end
theorem flatL_app : ∀ a b : List Tm, flatL (a ++ b) = flatL a ++ flatL b
  | [], _ => rfl
  | t :: a, b => by simp only [List.cons_append, flatL, flatL_app a b, List.append_assoc]
theorem wfL_app : ∀ {a b : List Tm}, wfL (a ++ b) ↔ wfL a ∧ wfL b
  | [], _ => by simp [wfL]
  | t :: a, b => by simp only [List.cons_append, wfL, wfL_app (a := a), and_assoc]
theorem begin_zero (l : List Itm) (n : Nat) : beginS l n 0 = (n : Int) := by cases n <;> rfl
mutual
theorem beginT (l : List Itm) : ∀ (t : Tm), wfT t → ∀ (P R : List Itm), l = P ++ (flat t ++ R) → ∀ need : Int, 1 ≤ need → beginS l (P.length + (flat t).length) need = beginS l P.length (need - 1)
  | .mk x i ks, hw, P, R, hl, need, hn => by
    have hw' : (ks.length : Int) = sarityI x.op ∧ wfL ks := by simpa only [wfT] using hw
    have hlen : (flat (.mk x i ks)).length = (flatL ks).length + 1 := by simp only [flat, List.length_append, List.length_singleton]
    have hl2 : l = P ++ (flatL ks ++ ([x] ++ R)) := by rw [hl]; simp only [flat, List.append_assoc]
    rw [hlen, ← Nat.add_assoc]
    simp only [beginS]
    rw [if_neg (by omega)]
    have hx : l[P.length + (flatL ks).length]? = some x := by
      rw [hl2, List.getElem?_append_right (by omega), Nat.add_sub_cancel_left, List.getElem?_append_right (by omega), Nat.sub_self]
      rfl
    rw [hx]
    simp only
    rw [if_neg (by omega), beginL l ks hw'.2 P ([x] ++ R) hl2 _ (by omega)]
    congr 1
    omega
theorem beginL (l : List Itm) : ∀ (ts : List Tm), wfL ts → ∀ (P R : List Itm), l = P ++ (flatL ts ++ R) → ∀ need : Int, (ts.length : Int) ≤ need → beginS l (P.length + (flatL ts).length) need = beginS l P.length (need - ts.length)
  | [], _, P, R, hl, need, hn => by simp [flatL]
  | t :: ts, hw, P, R, hl, need, hn => by
    have hw' : wfT t ∧ wfL ts := by simpa only [wfL] using hw
    have h1 : l = (P ++ flat t) ++ (flatL ts ++ R) := by rw [hl]; simp only [flatL, List.append_assoc]
    have h2 : l = P ++ (flat t ++ (flatL ts ++ R)) := by rw [hl]; simp only [flatL, List.append_assoc]
    have e1 : P.length + (flatL (t :: ts)).length = (P ++ flat t).length + (flatL ts).length := by simp only [flatL, List.length_append]; omega
    have hn' : (ts.length : Int) + 1 ≤ need := by simpa using hn
    rw [e1, beginL l ts hw'.2 _ _ h1 need (by omega), List.length_append, beginT l t hw'.1 P _ h2 _ (by omega)]
    congr 1
    simp only [List.length_cons]
    omega
end
/-- Where the operand that ends behind t begins. -/
theorem begin_tree {l : List Itm} {t : Tm} (hw : wfT t) {P R : List Itm} (hl : l = P ++ (flat t ++ R)) : beginS l (P.length + (flat t).length) 1 = (P.length : Int) := by
  rw [beginT l t hw P R hl 1 (by omega)]; exact begin_zero l _
/-- The stack of trees behind a code. -/
def runT : Nat → List Tm → List Itm → List Tm
  | _, st, [] => st
  | i, st, x :: l => runT (i + 1) (st.take (st.length - (arityI x.op).toNat) ++ [.mk x i (st.drop (st.length - (arityI x.op).toNat))]) l
theorem run_flat : ∀ (l : List Itm) (i : Nat) (st : List Tm), (∀ x ∈ l, 1 ≤ x.op ∧ x.op ≤ 25) → wfL st → postI st.length l = true → ∃ t, runT i st l = [t] ∧ wfT t ∧ flat t = flatL st ++ l
  | [], i, st, _, hw, h => by
    have h1 : (st.length : Int) = 1 := by simpa [postI] using h
    match st, h1 with
    | [t], _ => exact ⟨t, rfl, by simpa [wfL] using hw, by simp [flatL]⟩
  | x :: l, i, st, ho, hw, h => by
    simp only [postI] at h
    split at h
    · cases h
    rename_i hn
    have har := arityI_range x.op
    obtain ⟨n, hnn⟩ : ∃ n : Nat, arityI x.op = (n : Int) := ⟨(arityI x.op).toNat, by omega⟩
    have hsp : st.take (st.length - n) ++ st.drop (st.length - n) = st := List.take_append_drop _ _
    have hw2 := wfL_app.1 (hsp.symm ▸ hw)
    have hdl : (st.drop (st.length - n)).length = n := by rw [List.length_drop]; omega
    have hnew : wfL (st.take (st.length - n) ++ [.mk x i (st.drop (st.length - n))]) := wfL_app.2 ⟨hw2.1, by
      simp only [wfL, wfT, and_true]
      exact ⟨by rw [hdl, arity_eq (ho x (by simp)), hnn], hw2.2⟩⟩
    have hlen : ((st.take (st.length - n) ++ [Tm.mk x i (st.drop (st.length - n))]).length : Int) = st.length + (1 - arityI x.op) := by
      rw [List.length_append, List.length_take, List.length_singleton, hnn]; omega
    rw [← hlen] at h
    obtain ⟨t, h1, h2, h3⟩ := run_flat l (i + 1) _ (fun y hy => ho y (by simp [hy])) hnew h
    refine ⟨t, ?_, h2, ?_⟩
    · simp only [runT]
      rw [hnn, Int.toNat_natCast]
      exact h1
    · rw [h3, flatL_app]
      conv => rhs; rw [← hsp, flatL_app]
      simp only [flatL, flat, List.append_assoc, List.append_nil, List.singleton_append]
end Go.Pm
/- The text of a tree, the program's tree as data. No program in sight. -/
set_option linter.unusedVariables false
set_option linter.unusedSimpArgs false
namespace Go.Pm
mutual
def textT : Tm → ByteArray
  | .mk x _ ks => textK x (textTs ks)
def textTs : List Tm → List ByteArray
  | [] => []
  | t :: ts => textT t :: textTs ts
end
mutual
def eTm : Tm → List D
  | .mk x i ks => [.s (.int .i64 x.op), .s (.int .i64 x.val), .s (.string x.name), .im (eTms ks), .s (.int .i64 i)]
def eTms : List Tm → List (List D)
  | [] => []
  | t :: ts => [.ip (eTm t) 0] :: eTms ts
end
def eTp (t : Tm) : List D := [.ip (eTm t) 0]
theorem eTms_map : ∀ ts : List Tm, eTms ts = ts.map eTp
  | [] => rfl
  | t :: ts => by simp only [eTms, List.map_cons, eTms_map ts]; rfl
theorem textTs_map : ∀ ts : List Tm, textTs ts = ts.map textT
  | [] => rfl
  | t :: ts => by simp only [textTs, List.map_cons, textTs_map ts]
theorem kid_at {ks : List Tm} {i : Nat} {k : Tm} (h : ks[i]? = some k) : kid (textTs ks) i = textT k := by
  unfold kid
  rw [textTs_map, List.getD, List.getElem?_map, h]; rfl
theorem textT_mk (x : Itm) (i : Nat) (ks : List Tm) : textT (.mk x i ks) = textK x (textTs ks) := by simp only [textT]
theorem eTm_mk (x : Itm) (i : Nat) (ks : List Tm) : eTm (.mk x i ks) = [.s (.int .i64 x.op), .s (.int .i64 x.val), .s (.string x.name), .im (ks.map eTp), .s (.int .i64 i)] := by simp only [eTm, eTms_map]
/-- All items of a tree. -/
theorem mem_kid {x : Itm} {i : Nat} {ks : List Tm} {k : Tm} (hk : k ∈ ks) {y : Itm} (hy : y ∈ flat k) : y ∈ flat (.mk x i ks) := by
  simp only [flat, List.mem_append]
  left
  induction ks with
  | nil => simp at hk
  | cons t ts ih =>
    simp only [flatL, List.mem_append]
    rcases List.mem_cons.1 hk with rfl | h
    · exact .inl hy
    · exact .inr (ih h)
theorem mem_top {x : Itm} {i : Nat} {ks : List Tm} : x ∈ flat (.mk x i ks) := by simp [flat]
theorem wf_kid {k : Tm} : ∀ {ks : List Tm}, wfL ks → k ∈ ks → wfT k
  | t :: ts, hw, hk => by
    have hw' : wfT t ∧ wfL ts := by simpa only [wfL] using hw
    rcases List.mem_cons.1 hk with rfl | h
    · exact hw'.1
    · exact wf_kid hw'.2 h
end Go.Pm
/- The abstract machine, thirty-ninth text: a function known from elsewhere that looks at frozen strings. -/
set_option linter.unusedVariables false
set_option linter.unusedSimpArgs false
namespace Go.Pm
open Go.RowKit
theorem PFun.ext_strs {X : Cfg} {f : FuncId} {l : List ByteArray} {sep v : Value} (hne : l ≠ []) (hc : CallOk X.P f)
    (h : ∀ (w : World) (bk o c : Nat), (∀ (j : Nat) x, l[j]? = some x → w.cell? ⟨bk, o + j, none⟩ = some (.string x)) → bk < w.heap.size → l.length ≤ c → Calls X.P f #[.slice (some ⟨bk, o, none⟩) l.length c, sep] w fun e w' => e = .returned v ∧ Below w.heap.size w w') :
    PFun X f [.d (.im (l.map eStr)), .d (.s sep)] (.d (.s v)) := by
  refine ⟨rfl, rfl, hc, fun F η w vals hg hf hs hn hv => ?_⟩
  have h0 := hv 0 (by simp)
  have h1 := (hv 1 (by simp)).s_inv
  simp only [List.getElem_cons_zero] at h0
  obtain ⟨a, hvals⟩ : ∃ a, vals = #[a, sep] := by
    obtain ⟨q⟩ := vals
    match q, hn, h1 with
    | [y, z], _, h1 => exact ⟨y, by simp [Array.getD] at h1; rw [h1]⟩
  subst hvals
  have h0 : VRel F η 0 (.d (.im (l.map eStr))) a := h0
  cases h0 with
  | d h0 =>
    generalize hrr : l.map eStr = rr at h0
    cases h0 with
    | im0 => exact absurd (List.map_eq_nil_iff.1 hrr) hne
    | im rows b o cap sz c E fz g hb hcap hsz hcc ho hr =>
      subst hrr
      have hll : (l.map eStr).length = l.length := by simp
      rw [hll] at hcap ⊢
      have hwb := hf b _ hb
      have hlt : b < w.heap.size := by
        rcases Nat.lt_or_ge b w.heap.size with h | h
        · exact h
        · rw [Array.getElem?_eq_none (by omega)] at hwb; cases hwb
      have hsz1 : sz = 1 := by
        obtain ⟨x, r, rfl⟩ : ∃ x r, l = x :: r := by cases l with | nil => exact absurd rfl hne | cons x r => exact ⟨x, r, rfl⟩
        exact (hsz (eStr x) (by simp)).symm
      subst hsz1
      refine (h w b o cap (fun j x hj => ?_) hlt hcap).mono ?_
      · have hjl : j < l.length := (List.getElem?_eq_some_iff.1 hj).1
        have q1 := hcc j (by rw [hll]; exact hjl) 0 (by omega)
        have q2 := hr j (by rw [hll]; exact hjl) 0 (by simp [eStr])
        have q3 : g j 0 = .string x := by
          have hx : l[j] = x := (List.getElem?_eq_some_iff.1 hj).2
          simp only [List.getElem_map, eStr, List.getElem_cons_zero, hx] at q2
          generalize g j 0 = u at q2
          cases q2
          rfl
        rw [Nat.mul_one, Nat.add_zero, q3] at q1
        simp [World.cell?, hwb, q1]
      · rintro e w' ⟨rfl, hbl⟩
        have hh : ∀ k, k < w.heap.size → w'.heap[k]? = w.heap[k]? := fun k hk => hbl.block k hk
        refine ⟨F, η, St.nil, .ret (.d (.s v)), ⟨F.le_refl, Et.agree_refl _ _, Nat.le_refl _, ⟨hbl.size, hbl.os, hbl.output⟩, fun b hb _ => hh b hb, fun i o b ho hb _ => by simp [St.nil] at ho, fun b o hb _ => .inl hb⟩, ?_, SRel.nil _ _ _, .d (.s _), rfl⟩
        intro b o hb
        have h1 := hf b o hb
        have hlt : b < w.heap.size := by
          rcases Nat.lt_or_ge b w.heap.size with h | h
          · exact h
          · rw [Array.getElem?_eq_none (by omega)] at h1; cases h1
        rw [hh b hlt]; exact h1
end Go.Pm
/- The abstract machine, fortieth text: the ends of an owned slice; a part of a row behind nil. -/
set_option linter.unusedVariables false
set_option linter.unusedSimpArgs false
namespace Go.Pm
attribute [local irreducible] AR Ok inBlock andThen endQ aoper
section
variable {X : Cfg} {nt : Nat} {Q : Exit → Env → St → Prop} {env : Env} {σ : St} {K : AV → St → Prop}
theorem Uq {x y : Operand} {t i v m e sz : Nat} {n : Int} {ti te : TI} {rows : List (List AV)} (a : Nat) (ho : σ.obj i = some (.row v e sz rows)) (hn : n = (a : Int)) (ham : a ≤ m) (hK : K (.sl i v a m) σ) (hx : aev X env x = .sl i v 0 m := by exact rfl) (hy : aev X env y = vi n := by exact rfl)
    (ht : X.T t = some ti := by exact rfl) (hk : ti.kind = .slice e := by exact rfl) (hte : X.T e = some te := by exact rfl) (hsz : te.size = sz := by exact rfl) : aoper X (.slice t x (some y) none none) env σ Q K := by
  subst hsz
  subst hn
  simp only [aoper, aop, aslice, Option.map_some, Option.map_none, optInt]
  rw [hx, hy]
  refine ⟨ti, ht, some (a : Int), rfl, none, rfl, ?_⟩
  rw [hk]
  refine ⟨by simp, by simpa using ham, by simp, ⟨te, rows, hte, ho⟩, ?_⟩
  simpa using hK
theorem Ur {x y : Operand} {t i v m e sz : Nat} {n : Int} {ti te : TI} {rows : List (List AV)} (b : Nat) (ho : σ.obj i = some (.row v e sz rows)) (hn : n = (b : Int)) (hbm : b ≤ m) (hK : K (.sl i v 0 b) σ) (hx : aev X env x = .sl i v 0 m := by exact rfl) (hy : aev X env y = vi n := by exact rfl)
    (ht : X.T t = some ti := by exact rfl) (hk : ti.kind = .slice e := by exact rfl) (hte : X.T e = some te := by exact rfl) (hsz : te.size = sz := by exact rfl) : aoper X (.slice t x none (some y) none) env σ Q K := by
  subst hsz
  subst hn
  simp only [aoper, aop, aslice, Option.map_some, Option.map_none, optInt]
  rw [hx, hy]
  refine ⟨ti, ht, none, rfl, some (b : Int), rfl, ?_⟩
  rw [hk]
  refine ⟨by simp, by simp, by simpa using hbm, ⟨te, rows, hte, ho⟩, ?_⟩
  simpa using hK
theorem Us {α : Type} {e : α → List D} {l : List α} {ars : Array Operand} {ts : Array TypeId} {s x : Operand} {t tx el i v a m n sz : Nat} {ti te tix : TI} (p : List α) (hp : (l.drop a).take (m - a) = p) (ho : σ.obj i = some (.row v el sz (im2 e l))) (hml : m ≤ l.length) (hf : ∀ z, (e z).length = sz) (hb : p.length ≤ 2097153)
    (hK : K (.sl n n 0 p.length) (σ.alloc (.row n el sz (im2 e p))))
    (h1 : ars.toList = [s, x] := by exact rfl) (h2 : ts.toList = [t, tx] := by exact rfl) (hs : aev X env s = .d (.s (.slice none 0 0)) := by exact rfl) (hx : aev X env x = .sl i v a m := by exact rfl) (ht : X.T t = some ti := by exact rfl) (hk : ti.kind = .slice el := by exact rfl) (hte : X.T el = some te := by exact rfl) (hsz : te.size = sz := by exact rfl) (hpz : Nat.blt 0 sz = true := by exact rfl) (hby : Nat.blt 0 te.bytes = true := by exact rfl) (hbb : Nat.ble te.bytes 1024 = true := by exact rfl)
    (htx : X.T tx = some tix := by exact rfl) (hkx : tix.kind = .slice el := by exact rfl) (hn : σ.next = n := by exact rfl) : aoper X (.call ⟨.builtin .append, ars, ts⟩) env σ Q K := by
  subst hn
  subst hsz
  subst hp
  simp only [aoper, abuiltin]
  rw [h1, h2]
  simp only [aappend]
  have e1 : ((im2 e l).drop a).take (m - a) = im2 e ((l.drop a).take (m - a)) := by simp [im2, List.map_drop, List.map_take]
  refine ⟨ti, ht, el, te, hk, hte, blt_lt hpz, blt_lt hby, tix, htx, im2 e ((l.drop a).take (m - a)), ?_, ?_, ?_⟩
  · rw [hkx, hx]
    simp only [srcOf, rowsOf, ho]
    rw [if_pos ⟨trivial, by rw [im2_length]; exact hml⟩, e1]
  · intro r hr
    simp only [im2, List.map_map, List.mem_map, Function.comp] at hr
    obtain ⟨y, _, rfl⟩ := hr
    simp [hf]
  · rw [hs, im2_length]
    exact ⟨Nat.le_trans (Nat.mul_le_mul hb (Nat.le_of_ble_eq_true hbb)) (by decide), hK⟩
/-- The rows of one owned slice behind those of another. -/
theorem Ut {ars : Array Operand} {ts : Array TypeId} {s x : Operand} {t tx el i v hi k w m n sz z : Nat} {ti te tix : TI} {rows rows2 : List (List AV)} (ho : σ.obj i = some (.row v el sz rows)) (hok : σ.obj k = some (.row w el sz rows2)) (hle : hi ≤ rows.length) (hm : m = rows2.length) (hl : ∀ r ∈ rows2, r.length = sz) (hb : hi + rows2.length ≤ 2097153) (hz : hi + rows2.length = z)
    (hK : K (.sl i n 0 z) (bumpSet σ i (.row n el sz (rows.take hi ++ rows2))))
    (h1 : ars.toList = [s, x] := by exact rfl) (h2 : ts.toList = [t, tx] := by exact rfl) (hs : aev X env s = .sl i v 0 hi := by exact rfl) (hx : aev X env x = .sl k w 0 m := by exact rfl) (ht : X.T t = some ti := by exact rfl) (hk : ti.kind = .slice el := by exact rfl) (hte : X.T el = some te := by exact rfl) (hsz : te.size = sz := by exact rfl) (hpz : Nat.blt 0 sz = true := by exact rfl) (hby : Nat.blt 0 te.bytes = true := by exact rfl) (hbb : Nat.ble te.bytes 1024 = true := by exact rfl)
    (htx : X.T tx = some tix := by exact rfl) (hkx : tix.kind = .slice el := by exact rfl) (hn : σ.next = n := by exact rfl) : aoper X (.call ⟨.builtin .append, ars, ts⟩) env σ Q K := by
  subst hn
  subst hsz
  subst hm
  subst hz
  simp only [aoper, abuiltin]
  rw [h1, h2]
  simp only [aappend]
  refine ⟨ti, ht, el, te, hk, hte, blt_lt hpz, blt_lt hby, tix, htx, rows2, ?_, hl, ?_⟩
  · rw [hkx, hx]
    simp [srcOf, rowsOf, hok]
  · rw [hs]
    exact ⟨rfl, rows, ho, hle, Nat.le_trans (Nat.mul_le_mul hb (Nat.le_of_ble_eq_true hbb)) (by decide), hK⟩
end
theorem okz_snoc {τ : St} {v E : Nat} {rows : List (List AV)} {x y : AV} (h : Kz τ x y) : OKz τ (.row v E 1 (rows ++ [[x]])) (.row v E 1 (rows ++ [[y]])) := by
  refine .row (by simp) (fun k h1 h2 => ?_) fun k h1 h2 j h3 h4 => ?_
  · by_cases hk : k < rows.length
    · rw [List.getElem_append_left hk, List.getElem_append_left hk]
    · rw [List.getElem_append_right (by omega), List.getElem_append_right (by omega)]; simp
  · by_cases hk : k < rows.length
    · simp only [List.getElem_append_left hk]
      exact .same _
    · have e : k - rows.length = 0 := by simp only [List.length_append, List.length_singleton] at h1; omega
      simp only [List.getElem_append_right (show rows.length ≤ k by omega)] at h3 h4 ⊢
      simp only [e, List.getElem_cons_zero, List.length_singleton] at h3 h4 ⊢
      have : j = 0 := by omega
      subst this
      exact h
end Go.Pm
