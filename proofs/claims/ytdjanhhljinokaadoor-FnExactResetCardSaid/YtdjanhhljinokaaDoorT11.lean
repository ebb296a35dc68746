/- Part of the proof. -/
import Derived.Test.YtdjanhhljinokaaDoorT9
import Derived.Test.YtdjanhhljinokaaDoorT7
set_option linter.unusedVariables false
set_option linter.unusedSimpArgs false
namespace Go.Pm
attribute [local irreducible] AR Ok inBlock andThen endQ aoper
set_option maxHeartbeats 1000000
open Go.Proofs
theorem sdigit_ok (c : UInt8) : PFun X 88 [.d (.s (.int .u8 c.toNat))] (vb (digitI c)) := by
  refine pfun_of Tryd.func88 rfl (by decide) Tryd.ntmps88 Tryd.results88 (by simp) rfl rfl ?_
  repeat' first
    | refine Z1 ?_ | refine Z2 ?_ | refine Z5 ?_ | refine Z7 ?_ | refine Z8 ?_ | refine Za (fun hc => ?_) (fun hc => ?_) | refine Zh ?_ | refine Zi ?_ | refine Zl ?_ | refine Zm ?_ | refine Zo ?_ | refine ok_ret ?_ | refine Zt ?_
  all_goals simp [digitI, *]
theorem sletter_ok (c : UInt8) : PFun X 86 [.d (.s (.int .u8 c.toNat))] (vb (letterI c)) := by
  refine pfun_of Tryd.func86 rfl (by decide) Tryd.ntmps86 Tryd.results86 (by simp) rfl rfl ?_
  repeat' first
    | refine Z1 ?_ | refine Z2 ?_ | refine Z5 ?_ | refine Z6 ?_ | refine Z7 ?_ | refine Z8 ?_ | refine Z9 ?_ | refine Za (fun hc => ?_) (fun hc => ?_) | refine Zb (fun hc => ?_) (fun hc => ?_) | refine Zh ?_ | refine Zi ?_ | refine Zl ?_
    | refine Zm ?_ | refine Zo ?_ | refine ok_ret ?_ | refine Zt ?_
  all_goals simp [letterI, *]
def inS (ks : List ByteArray) (s : ByteArray) : Bool := ks.any fun k => decide (k = s)
theorem sin_ok (ks : List ByteArray) (s : ByteArray) (hl : ks.length ≤ 1048576) : PFun X 79 [.d (.im (ks.map eStr)), vs s] (vb (inS ks s)) := by
  refine pfun_of Tryd.func79 rfl (by decide) Tryd.ntmps79 Tryd.results79 (by simp) rfl rfl ?_
  repeat' first
    | refine Z1 ?_ | refine Z2 ?_ | refine Z5 ?_ | refine Zd ?_ | refine Zo ?_ | refine ok_seq ?_ | refine ok_block ?_
  refine ok_for (ι := Nat) (fun x => envL [(1, vs s), (4, vb false), (7, .d (.im (ks.map eStr))), (8, vi ks.length), (9, vi x)]) (fun x => stL []) (fun x => x ≤ ks.length ∧ inS (ks.drop x) s = inS ks s) (fun x => ks.length - x) 0 (⟨Nat.zero_le _, rfl⟩) (weak_mk rfl ⟨.refl _, .refl _, .refl _, .refl _, .refl _, trivial⟩ trivial) (fun _ => Nat.le_refl 0) ?_
  rintro k ⟨i1, i2⟩
  rcases hx : ks[k]? with _ | x
  · have hle := none_le hx
    have ek : decide ((k : Int) < (ks.length : Int)) = false := decide_eq_false (by omega)
    rw [drop_none hx] at i2
    repeat' first
      | refine Z1 ?_ | refine Z2 ?_ | refine Zo ?_ | refine ok_seq ?_ | refine Zq ?_ | refine ok_exit ?_ | refine ok_ret ?_ | refine x_normal_then ?_ | refine x_exit_here ?_ | refine Zv ?_ | refine Zt ?_
    exact ret_vb i2
  · obtain ⟨hd, hlt⟩ := drop_some hx
    have ek : decide ((k : Int) < (ks.length : Int)) = true := decide_eq_true (by omega)
    rw [hd] at i2
    simp only [inS, List.any_cons] at i2
    cases he : decide (x = s) with
    | true =>
      repeat' first
        | refine Z1 ?_ | refine Z2 ?_ | refine Z5 ?_ | refine Ze ?_ | refine Zo ?_ | refine ok_seq ?_ | refine Zp ?_ | refine ok_block ?_ | refine ok_skip ?_ | refine ok_ret ?_ | refine x_normal_then ?_ | refine x_ret_then ?_
        | refine x_ret_block ?_ | refine Zt ?_
      exact ret_vb (by rw [he] at i2; exact i2)
    | false =>
      repeat' first
        | refine Z1 ?_ | refine Z2 ?_ | refine Z5 ?_ | refine Ze ?_ | refine Zf ?_ | refine Zo ?_ | refine ok_seq ?_ | refine ok_reg ?_ | refine Zp ?_ | refine Zq ?_ | refine ok_block ?_ | refine ok_skip ?_ | refine x_normal_then ?_
        | refine x_normal_block ?_
      rw [he, Bool.false_or] at i2
      exact ⟨k + 1, ⟨hlt, i2⟩, by (try simp only); omega, low_mk (Nat.zero_le _) ⟨⟨rfl, rfl⟩, ⟨rfl, rfl⟩, ⟨rfl, rfl⟩, ⟨rfl, rfl⟩, ⟨rfl, rfl⟩, trivial⟩ trivial⟩
def kwSpecBytes : List (List UInt8) := [[110, 111, 100, 101], [114, 101, 116, 117, 114, 110, 115], [118, 97, 114], [108, 101, 116], [116, 101, 108], [105, 110, 116], [98, 111, 111, 108], [119, 104, 101, 110], [119, 104, 101, 110, 111, 116], [105, 102], [116, 104, 101, 110], [101, 108, 115, 101], [102, 98, 121], [109, 101, 114, 103, 101], [116, 114, 117, 101], [102, 97, 108, 115, 101], [97, 110, 100], [111, 114], [120, 111, 114], [110, 111, 116], [109, 111, 100]]
def kwSpec : List ByteArray := kwSpecBytes.map fun l => ⟨l.toArray⟩
theorem skw_ok : PFun X 87 [] (.d (.im (kwSpec.map eStr))) := by
  refine pfun_of Tryd.func87 rfl (by decide) Tryd.ntmps87 Tryd.results87 (by simp) rfl rfl ?_
  repeat' first
    | refine Z1 ?_ | refine Z2 ?_ | refine Z4 ?_ | refine Zo ?_ | refine ok_ret ?_ | refine Zt ?_
  rfl
def plainS (s : ByteArray) : Bool :=
  match bs s with
  | [] => false
  | c :: r => if 40 < (s.size : Int) then false else letterI c && !inS kwSpec s && (c :: r).all tailI
def freshS (s : ByteArray) : Bool :=
  match bs s with
  | c :: d :: r => if 10 < (s.size : Int) ∨ (c.toNat : Int) ≠ 36 ∨ (d.toNat : Int) = 48 then false else (d :: r).all digitI
  | _ => false
def nameS (s : ByteArray) : Bool := plainS s || freshS s
theorem splain_ok (s : ByteArray) : PFun X 75 [vs s] (vb (plainS s)) := by
  have hsz := bs_length s
  refine pfun_of Tryd.func75 rfl (by decide) Tryd.ntmps75 Tryd.results75 (by simp) rfl rfl ?_
  rcases hb : bs s with _ | ⟨c, r⟩
  · rw [hb] at hsz
    have e : decide ((s.size : Int) < 1) = true := decide_eq_true (by simp at hsz; omega)
    repeat' first
      | refine Z1 ?_ | refine Z2 ?_ | refine Z5 ?_ | refine Z9 ?_ | refine Zl ?_ | refine Zo ?_ | refine ok_seq ?_ | refine Zp ?_ | refine ok_ret ?_ | refine x_ret_then ?_ | refine Zt ?_
    exact ret_vb (by simp [plainS, hb])
  · have h0 : (bs s)[0]? = some c := by rw [hb]; rfl
    rw [hb] at hsz
    simp only [List.length_cons] at hsz
    have e : decide ((s.size : Int) < 1) = false := decide_eq_false (by omega)
    by_cases hbig : 40 < (s.size : Int)
    · have e2 : decide (40 < (s.size : Int)) = true := decide_eq_true hbig
      repeat' first
        | refine Z1 ?_ | refine Z2 ?_ | refine Z5 ?_ | refine Z7 ?_ | refine Z9 ?_ | refine Zh ?_ | refine Zi ?_ | refine Zl ?_ | refine Zm ?_ | refine Zo ?_ | refine ok_seq ?_ | refine Zp ?_ | refine ok_ret ?_ | refine x_ret_then ?_
        | refine Zt ?_
      exact ret_vb (by simp [plainS, hb, hbig])
    have e2 : decide (40 < (s.size : Int)) = false := decide_eq_false hbig
    cases hl : letterI c with
    | false =>
      have el : (!letterI c) = true := by rw [hl]; rfl
      repeat' first
        | refine Z1 ?_ | refine Z2 ?_ | refine Z5 ?_ | refine Z7 ?_ | refine Z9 ?_ | refine op_b rfl rfl h0 rfl rfl rfl ?_ | refine Zc (sletter_ok _) ?_ | refine Zh ?_ | refine Zi ?_ | refine Zl ?_ | refine Zm ?_ | refine Zo ?_
        | refine ok_seq ?_ | refine Zp ?_ | refine ok_ret ?_ | refine x_ret_then ?_ | refine Zt ?_
      exact ret_vb (by simp [plainS, hb, hbig, hl])
    | true =>
      have el : (!letterI c) = false := by rw [hl]; rfl
      cases hw : inS kwSpec s with
      | true =>
        repeat' first
          | refine Z1 ?_ | refine Z2 ?_ | refine Z5 ?_ | refine Z7 ?_ | refine op_b rfl rfl h0 rfl rfl rfl ?_ | refine Zc (sletter_ok _) ?_ | refine Zc (skw_ok) ?_ | refine Zc (sin_ok kwSpec s (by decide)) ?_ | refine Zh ?_ | refine Zi ?_
          | refine Zm ?_ | refine Zo ?_ | refine ok_seq ?_ | refine Zp ?_ | refine ok_ret ?_ | refine x_ret_then ?_ | refine Zt ?_
        exact ret_vb (by simp [plainS, hb, hbig, hl, hw])
      | false =>
        have hn : plainS s = (c :: r).all tailI := by simp only [plainS, hb, hbig, hl, hw, if_false]; rfl
        repeat' first
          | refine Z1 ?_ | refine Z2 ?_ | refine Z5 ?_ | refine Z7 ?_ | refine op_b rfl rfl h0 rfl rfl rfl ?_ | refine Zc (sletter_ok _) ?_ | refine Zc (skw_ok) ?_ | refine Zc (sin_ok kwSpec s (by decide)) ?_ | refine Zh ?_ | refine Zi ?_
          | refine Zm ?_ | refine Zo ?_ | refine ok_seq ?_ | refine Zq ?_ | refine ok_block ?_ | refine ok_skip ?_ | refine x_normal_then ?_
        refine ok_for (ι := Nat) (fun x => envL [(0, vs s), (2, vb false), (3, vi x)]) (fun x => stL []) (fun x => x ≤ s.size ∧ ((bs s).drop x).all tailI = plainS s) (fun x => s.size - x) 0 (⟨by omega, by rw [hn, hb]; rfl⟩) (weak_mk rfl ⟨.refl _, .refl _, .refl _, trivial⟩ trivial) (fun _ => Nat.le_refl 0) ?_
        rintro k ⟨i2, i3⟩
        rcases hx : (bs s)[k]? with _ | x
        · have hle := none_le hx
          rw [bs_length] at hle
          have ek : decide ((k : Int) < (s.size : Int)) = false := decide_eq_false (by omega)
          rw [drop_none hx] at i3
          repeat' first
            | refine Z1 ?_ | refine Z2 ?_ | refine Zo ?_ | refine ok_seq ?_ | refine Zq ?_ | refine ok_exit ?_ | refine ok_ret ?_ | refine x_normal_then ?_ | refine x_exit_here ?_ | refine Zv ?_ | refine Zt ?_
          exact ret_vb i3
        · obtain ⟨hd, hlt⟩ := drop_some hx
          rw [bs_length] at hlt
          have ek : decide ((k : Int) < (s.size : Int)) = true := decide_eq_true (by omega)
          rw [hd, List.all_cons] at i3
          cases htx : tailI x with
          | false =>
            have htx' := htx
            simp only [tailI, Bool.or_eq_false_iff, decide_eq_false_iff_not] at htx'
            have ex : (!letterI x) = true := by rw [htx'.1.1]; rfl
            have ex2 : (!digitI x) = true := by rw [htx'.1.2]; rfl
            have ex3 : decide ((x.toNat : Int) ≠ 95) = true := decide_eq_true htx'.2
            repeat' first
              | refine Z1 ?_ | refine Z2 ?_ | refine Z5 ?_ | refine Z7 ?_ | refine op_b rfl rfl hx rfl rfl rfl ?_ | refine Zc (sdigit_ok _) ?_ | refine Zc (sletter_ok _) ?_ | refine Zh ?_ | refine Zi ?_ | refine Zl ?_ | refine Zo ?_
              | refine ok_seq ?_ | refine Zp ?_ | refine ok_block ?_ | refine ok_skip ?_ | refine ok_ret ?_ | refine x_normal_then ?_ | refine x_ret_then ?_ | refine x_ret_block ?_ | refine Zt ?_
            exact ret_vb (by rw [← i3, htx]; rfl)
          | true =>
            rw [htx, Bool.true_and] at i3
            repeat' first
              | refine Z1 ?_ | refine Z2 ?_ | refine Z5 ?_ | refine Z7 ?_ | refine Z8 ?_ | refine Za (fun hc => ?_) (fun hc => ?_) | refine op_b rfl rfl hx rfl rfl rfl ?_ | refine Zc (sdigit_ok _) ?_ | refine Zc (sletter_ok _) ?_
              | refine Zf ?_ | refine Zh ?_ | refine Zi ?_ | refine Zl ?_ | refine Zm ?_ | refine Zo ?_ | refine ok_seq ?_ | refine ok_reg ?_ | refine Zp ?_ | refine Zq ?_ | refine Zr (fun hc => ?_) (fun hc => ?_) | refine ok_block ?_
              | refine ok_skip ?_ | refine ok_ret ?_ | refine x_normal_then ?_ | refine x_ret_then ?_ | refine x_ret_block ?_ | refine x_normal_block ?_ | refine Zt ?_
            all_goals first
              | (exact ⟨k + 1, ⟨by omega, i3⟩, by (try simp only); omega, low_mk (Nat.zero_le _) ⟨⟨rfl, rfl⟩, ⟨rfl, rfl⟩, ⟨rfl, rfl⟩, trivial⟩ trivial⟩)
              | (exfalso; simp_all [tailI])
theorem sfresh_ok (s : ByteArray) : PFun X 76 [vs s] (vb (freshS s)) := by
  have hsz := bs_length s
  refine pfun_of Tryd.func76 rfl (by decide) Tryd.ntmps76 Tryd.results76 (by simp) rfl rfl ?_
  by_cases h2 : (s.size : Int) < 2
  · have e : decide ((s.size : Int) < 2) = true := decide_eq_true h2
    repeat' first
      | refine Z1 ?_ | refine Z2 ?_ | refine Z5 ?_ | refine Z9 ?_ | refine Zl ?_ | refine Zo ?_ | refine ok_seq ?_ | refine Zp ?_ | refine ok_ret ?_ | refine x_ret_then ?_ | refine Zt ?_
    refine ret_vb ?_
    unfold freshS
    split
    · rename_i hb; rw [hb] at hsz; simp only [List.length_cons] at hsz; omega
    · rfl
  · rcases hb : bs s with _ | ⟨c, _ | ⟨d, r⟩⟩
    · rw [hb] at hsz; simp only [List.length_nil] at hsz; omega
    · rw [hb] at hsz; simp only [List.length_cons, List.length_nil] at hsz; omega
    have h0 : (bs s)[0]? = some c := by rw [hb]; rfl
    have h1 : (bs s)[1]? = some d := by rw [hb]; rfl
    rw [hb] at hsz
    simp only [List.length_cons] at hsz
    have e : decide ((s.size : Int) < 2) = false := decide_eq_false h2
    by_cases hbad : 10 < (s.size : Int) ∨ (c.toNat : Int) ≠ 36 ∨ (d.toNat : Int) = 48
    · have hn : freshS s = false := by simp only [freshS, hb, hbad, if_true]
      repeat' first
        | refine Z1 ?_ | refine Z2 ?_ | refine Z5 ?_ | refine Z7 ?_ | refine Z9 ?_ | refine Zb (fun hc => ?_) (fun hc => ?_) | refine op_b rfl rfl h0 rfl rfl rfl ?_ | refine op_b rfl rfl h1 rfl rfl rfl ?_ | refine Zh ?_ | refine Zi ?_
        | refine Zl ?_ | refine Zm ?_ | refine Zo ?_ | refine ok_seq ?_ | refine Zp ?_ | refine Zr (fun hc => ?_) (fun hc => ?_) | refine ok_block ?_ | refine ok_skip ?_ | refine ok_ret ?_ | refine x_normal_then ?_ | refine x_ret_then ?_
        | refine Zt ?_
      all_goals simp only [decide_eq_true_eq, decide_eq_false_iff_not, Bool.not_eq_true, Bool.not_eq_false, Bool.not_eq_eq_eq_not, Bool.not_true, Bool.not_false] at *
      all_goals first
        | exact ret_vb hn.symm
        | (exfalso; omega)
    · have e2 : decide (10 < (s.size : Int)) = false := decide_eq_false (by omega)
      have e3 : decide ((c.toNat : Int) ≠ 36) = false := decide_eq_false (by omega)
      have e4 : decide ((d.toNat : Int) = 48) = false := decide_eq_false (by omega)
      have hn : freshS s = (d :: r).all digitI := by simp only [freshS, hb, hbad, if_false]
      repeat' first
        | refine Z1 ?_ | refine Z2 ?_ | refine Z5 ?_ | refine Z7 ?_ | refine op_b rfl rfl h0 rfl rfl rfl ?_ | refine op_b rfl rfl h1 rfl rfl rfl ?_ | refine Zh ?_ | refine Zi ?_ | refine Zm ?_ | refine Zo ?_ | refine ok_seq ?_ | refine Zq ?_
        | refine ok_block ?_ | refine ok_skip ?_ | refine x_normal_then ?_
      refine ok_for (ι := Nat) (fun x => envL [(0, vs s), (2, vb false), (3, vi x)]) (fun x => stL []) (fun x => 1 ≤ x ∧ x ≤ s.size ∧ ((bs s).drop x).all digitI = freshS s) (fun x => s.size - x) 1 (⟨by omega, by omega, by rw [hn, hb]; simp⟩) (weak_mk rfl ⟨.refl _, .refl _, .refl _, trivial⟩ trivial) (fun _ => Nat.le_refl 0) ?_
      rintro k ⟨i1, i2, i3⟩
      rcases hx : (bs s)[k]? with _ | x
      · have hle := none_le hx
        rw [bs_length] at hle
        have ek : decide ((k : Int) < (s.size : Int)) = false := decide_eq_false (by omega)
        rw [drop_none hx] at i3
        repeat' first
          | refine Z1 ?_ | refine Z2 ?_ | refine Zo ?_ | refine ok_seq ?_ | refine Zq ?_ | refine ok_exit ?_ | refine ok_ret ?_ | refine x_normal_then ?_ | refine x_exit_here ?_ | refine Zv ?_ | refine Zt ?_
        exact ret_vb i3
      · obtain ⟨hd, hlt⟩ := drop_some hx
        rw [bs_length] at hlt
        have ek : decide ((k : Int) < (s.size : Int)) = true := decide_eq_true (by omega)
        rw [hd, List.all_cons] at i3
        cases hdx : digitI x with
        | false =>
          have ex : (!digitI x) = true := by rw [hdx]; rfl
          repeat' first
            | refine Z1 ?_ | refine Z2 ?_ | refine Z5 ?_ | refine op_b rfl rfl hx rfl rfl rfl ?_ | refine Zc (sdigit_ok _) ?_ | refine Zo ?_ | refine ok_seq ?_ | refine Zp ?_ | refine ok_block ?_ | refine ok_skip ?_ | refine ok_ret ?_
            | refine x_normal_then ?_ | refine x_ret_then ?_ | refine x_ret_block ?_ | refine Zt ?_
          exact ret_vb (by rw [← i3, hdx]; rfl)
        | true =>
          have ex : (!digitI x) = false := by rw [hdx]; rfl
          repeat' first
            | refine Z1 ?_ | refine Z2 ?_ | refine Z5 ?_ | refine op_b rfl rfl hx rfl rfl rfl ?_ | refine Zc (sdigit_ok _) ?_ | refine Zf ?_ | refine Zo ?_ | refine ok_seq ?_ | refine ok_reg ?_ | refine Zp ?_ | refine Zq ?_
            | refine ok_block ?_ | refine ok_skip ?_ | refine x_normal_then ?_ | refine x_normal_block ?_
          rw [hdx, Bool.true_and] at i3
          exact ⟨k + 1, ⟨by omega, by omega, i3⟩, by (try simp only); omega, low_mk (Nat.zero_le _) ⟨⟨rfl, rfl⟩, ⟨rfl, rfl⟩, ⟨rfl, rfl⟩, trivial⟩ trivial⟩
theorem sname_ok (s : ByteArray) : PFun X 55 [vs s] (vb (nameS s)) := by
  refine pfun_of Tryd.func55 rfl (by decide) Tryd.ntmps55 Tryd.results55 (by simp) rfl rfl ?_
  cases hp : plainS s with
  | true =>
    repeat' first
      | refine Z1 ?_ | refine Z2 ?_ | refine Z5 ?_ | refine Z9 ?_ | refine Zc (splain_ok s) ?_ | refine Zl ?_ | refine Zo ?_ | refine ok_ret ?_ | refine Zt ?_
    exact ret_vb (by rw [nameS, hp]; rfl)
  | false =>
    repeat' first
      | refine Z1 ?_ | refine Z2 ?_ | refine Z5 ?_ | refine Z7 ?_ | refine Zc (splain_ok s) ?_ | refine Zc (sfresh_ok s) ?_ | refine Zi ?_ | refine Zm ?_ | refine Zo ?_ | refine ok_ret ?_ | refine Zt ?_
    exact ret_vb (by rw [nameS, hp]; rfl)
end Go.Pm
set_option linter.unusedVariables false
set_option linter.unusedSimpArgs false
namespace Go.Pm
attribute [local irreducible] AR Ok inBlock andThen endQ aoper
set_option maxHeartbeats 1000000
open Go.Proofs
def sarityI (op : Int) : Int := if (1 ≤ op ∧ op ≤ 3) ∨ op = 25 then 0 else if op = 4 ∨ op = 5 ∨ op = 21 ∨ op = 22 ∨ op = 23 then 1 else if (6 ≤ op ∧ op ≤ 19) ∨ op = 24 then 2 else if op = 20 then 3 else -1
theorem sarity_ok (op : Int) : PFun X 94 [vi op] (vi (sarityI op)) := by
  refine pfun_of Tryd.func94 rfl (by decide) Tryd.ntmps94 Tryd.results94 (by simp) rfl rfl ?_
  repeat' first
    | refine Z1 ?_ | refine Z2 ?_ | refine Z5 ?_ | refine Z7 ?_ | refine Z8 ?_ | refine Za (fun hc => ?_) (fun hc => ?_) | refine Zh ?_ | refine Zi ?_ | refine Zl ?_ | refine Zm ?_ | refine Zo ?_ | refine ok_seq ?_ | refine ok_reg ?_
    | refine Zp ?_ | refine Zq ?_ | refine Zr (fun hc => ?_) (fun hc => ?_) | refine ok_block ?_ | refine ok_skip ?_ | refine ok_ret ?_ | refine x_normal_then ?_ | refine x_ret_then ?_ | refine x_ret_block ?_ | refine x_normal_block ?_
    | refine Zt ?_
  all_goals simp only [decide_eq_true_eq, decide_eq_false_iff_not, Bool.not_eq_true, Bool.not_eq_false, Bool.not_eq_eq_eq_not, Bool.not_true, Bool.not_false] at *
  all_goals (refine ret_vi ?_; unfold sarityI; grind)
theorem sarityI_range (n : Int) : -1 ≤ sarityI n ∧ sarityI n ≤ 3 := by unfold sarityI; grind
def beginS (l : List Itm) : Nat → Int → Int
  | 0, need => if need ≤ 0 then 0 else -1
  | a + 1, need => if need ≤ 0 then ((a + 1 : Nat) : Int) else match l[a]? with
    | none => -1
    | some x => if sarityI x.op < 0 then -1 else beginS l a (need + sarityI x.op - 1)
theorem sbegin_ok (l : List Itm) (e : Nat) (he : e ≤ l.length) (hl : l.length ≤ 1048576) : PFun X 92 [.d (.im (l.map eItm)), vi e] (vi (beginS l e 1)) := by
  refine pfun_of Tryd.func92 rfl (by decide) Tryd.ntmps92 Tryd.results92 (by simp) rfl rfl ?_
  repeat' first
    | refine Z1 ?_ | refine Z2 ?_ | refine Zo ?_ | refine ok_seq ?_ | refine ok_block ?_
  refine ok_for (ι := Nat × Int) (fun x => envL [(0, .d (.im (l.map eItm))), (4, vi 0), (5, vi x.1), (6, vi x.2)]) (fun x => stL []) (fun x => x.1 ≤ l.length ∧ 0 ≤ x.2 ∧ x.2 ≤ 1 + 3 * (l.length - x.1) ∧ beginS l x.1 x.2 = beginS l e 1) (fun x => x.1) (e, 1) (⟨he, by simp only; omega, by simp only; omega, rfl⟩) (weak_mk rfl ⟨.refl _, .refl _, .refl _, .refl _, trivial⟩ trivial) (fun _ => Nat.le_refl 0) ?_
  rintro ⟨a, need⟩ ⟨i1, i2, i3, i4⟩
  simp only at i1 i2 i3 i4
  by_cases hn : 0 < need
  · have en : decide (0 < need) = true := decide_eq_true hn
    cases a with
    | zero =>
      have e1 : decide (((0 : Nat) : Int) - 1 < 0) = true := by decide
      repeat' first
        | refine Z1 ?_ | refine Z2 ?_ | refine Z5 ?_ | refine Z9 ?_ | refine Zg ?_ | refine Zo ?_ | refine ok_seq ?_ | refine Zp ?_ | refine ok_block ?_ | refine ok_skip ?_ | refine ok_ret ?_ | refine x_normal_then ?_ | refine x_ret_then ?_
        | refine x_ret_block ?_ | refine Zt ?_
      exact ret_vi (by rw [← i4]; simp only [beginS]; rw [if_neg (by omega)])
    | succ a =>
      have e1 : decide ((a : Int) < 0) = false := decide_eq_false (by omega)
      have hlt : a < l.length := by omega
      obtain ⟨x, hx⟩ : ∃ x, l[a]? = some x := ⟨l[a], by simp [hlt]⟩
      have hr := sarityI_range x.op
      simp only [beginS] at i4
      rw [if_neg (by omega), hx] at i4
      simp only at i4
      by_cases ha : sarityI x.op < 0
      · have ea : decide (sarityI x.op < 0) = true := decide_eq_true ha
        repeat' first
          | refine Z1 ?_ | refine Z2 ?_ | refine Z5 ?_ | refine Z7 ?_ | refine op_subr (r := (a : Int)) rfl rfl (by omega) (by omega) ?_ | refine Zc (sarity_ok _) ?_ | refine Ze ?_ | refine Zh ?_ | refine Zi ?_ | refine Zo ?_
          | refine ok_seq ?_ | refine Zp ?_ | refine ok_block ?_ | refine ok_skip ?_ | refine ok_ret ?_ | refine x_normal_then ?_ | refine x_ret_then ?_ | refine x_ret_block ?_ | refine Zt ?_
        exact ret_vi (by rw [← i4, if_pos ha])
      · have ea : decide (sarityI x.op < 0) = false := decide_eq_false ha
        repeat' first
          | refine Z1 ?_ | refine Z2 ?_ | refine Z3 ?_ | refine Z5 ?_ | refine Z7 ?_ | refine op_subr (r := (a : Int)) rfl rfl (by omega) (by omega) ?_ | refine Zc (sarity_ok _) ?_ | refine Ze ?_ | refine Zf ?_ | refine Zg ?_ | refine Zh ?_
          | refine Zi ?_ | refine Zo ?_ | refine ok_seq ?_ | refine ok_reg ?_ | refine Zp ?_ | refine Zq ?_ | refine ok_block ?_ | refine ok_skip ?_ | refine x_normal_then ?_ | refine x_normal_block ?_
        rw [if_neg ha] at i4
        exact ⟨(a, need + sarityI x.op - 1), ⟨by simp only; omega, by simp only; omega, by simp only; omega, i4⟩, by (try simp only); omega, low_mk (Nat.zero_le _) ⟨⟨rfl, rfl⟩, ⟨rfl, rfl⟩, ⟨rfl, rfl⟩, ⟨rfl, rfl⟩, trivial⟩ trivial⟩
  · have en : decide (0 < need) = false := decide_eq_false hn
    repeat' first
      | refine Z1 ?_ | refine Z2 ?_ | refine Zo ?_ | refine ok_seq ?_ | refine Zq ?_ | refine ok_exit ?_ | refine ok_ret ?_ | refine x_normal_then ?_ | refine x_exit_here ?_ | refine Zv ?_ | refine Zt ?_
    refine ret_vi ?_
    rw [← i4]
    cases a with
    | zero => simp only [beginS]; rw [if_pos (by omega)]; rfl
    | succ a => simp only [beginS]; rw [if_pos (by omega)]
def itemS (x : Itm) : Bool :=
  if (decide (x.op = 3 ∨ x.op = 23 ∨ x.op = 24) != decide (x.name ≠ ⟨#[]⟩)) || (decide (x.op = 3 ∨ x.op = 23 ∨ x.op = 24) && !nameS x.name) then false
  else if x.op = 1 then decide (0 ≤ x.val) && decide (x.val ≤ 2147483647)
  else if x.op = 2 ∨ x.op = 22 ∨ x.op = 23 then decide (0 ≤ x.val) && decide (x.val ≤ 1)
  else if x.op = 21 then decide (-2147483647 ≤ x.val) && decide (x.val ≤ 2147483647)
  else if x.op = 25 then true
  else decide (0 ≤ x.val) && decide (x.val ≤ 0)
set_option maxHeartbeats 1000000 in
theorem sitem_ok (x : Itm) : PFun X 93 [.agg ((eItm x).map .d)] (vb (itemS x)) := by
  refine pfun_of Tryd.func93 rfl (by decide) Tryd.ntmps93 Tryd.results93 (by simp) rfl rfl ?_
  repeat' first
    | refine Z1 ?_ | refine Z2 ?_ | refine Z3 ?_ | refine Z5 ?_ | refine Z6 ?_ | refine Z7 ?_ | refine Z8 ?_ | refine Z9 ?_ | refine Za (fun hc => ?_) (fun hc => ?_) | refine Zb (fun hc => ?_) (fun hc => ?_) | refine Zc (sname_ok _) ?_
    | refine Zh ?_ | refine Zi ?_ | refine Zj ?_ | refine Zl ?_ | refine Zm ?_ | refine Zo ?_ | refine ok_seq ?_ | refine ok_reg ?_ | refine Zp ?_ | refine Zq ?_ | refine Zr (fun hc => ?_) (fun hc => ?_) | refine ok_block ?_
    | refine ok_skip ?_ | refine ok_ret ?_ | refine x_normal_then ?_ | refine x_ret_then ?_ | refine x_ret_block ?_ | refine x_normal_block ?_ | refine Zt ?_
  all_goals (refine ret_vb ?_; unfold itemS; grind)
def codeS (l : List Itm) (most : Int) : Bool := if (l.length : Int) < 1 ∨ most < (l.length : Int) ∨ beginS l l.length 1 ≠ 0 then false else l.all itemS
theorem scode_ok (l : List Itm) (most : Int) (hl : l.length ≤ 1048576) : PFun X 89 [.d (.im (l.map eItm)), vi most] (vb (codeS l most)) := by
  refine pfun_of Tryd.func89 rfl (by decide) Tryd.ntmps89 Tryd.results89 (by simp) rfl rfl ?_
  by_cases hbad : (l.length : Int) < 1 ∨ most < (l.length : Int) ∨ beginS l l.length 1 ≠ 0
  · have hn : codeS l most = false := by simp only [codeS, hbad, if_true]
    repeat' first
      | refine Z1 ?_ | refine Z2 ?_ | refine Z5 ?_ | refine Z7 ?_ | refine Z9 ?_ | refine Zb (fun hc => ?_) (fun hc => ?_) | refine Zc (sbegin_ok l l.length (Nat.le_refl _) hl) ?_ | refine Zd ?_ | refine Zh ?_ | refine Zi ?_ | refine Zl ?_
      | refine Zm ?_ | refine Zo ?_ | refine ok_seq ?_ | refine Zp ?_ | refine Zr (fun hc => ?_) (fun hc => ?_) | refine ok_block ?_ | refine ok_skip ?_ | refine ok_ret ?_ | refine x_normal_then ?_ | refine x_ret_then ?_ | refine Zt ?_
    all_goals simp only [decide_eq_true_eq, decide_eq_false_iff_not, Bool.not_eq_true, Bool.not_eq_false, Bool.not_eq_eq_eq_not, Bool.not_true, Bool.not_false] at *
    all_goals first
      | exact ret_vb hn.symm
      | (exfalso; omega)
  · have e1 : decide ((l.length : Int) < 1) = false := decide_eq_false (by omega)
    have e2 : decide (most < (l.length : Int)) = false := decide_eq_false (by omega)
    have e3 : decide (beginS l l.length 1 ≠ 0) = false := decide_eq_false (by omega)
    have hn : codeS l most = l.all itemS := by simp only [codeS, hbad, if_false]
    repeat' first
      | refine Z1 ?_ | refine Z2 ?_ | refine Z5 ?_ | refine Z7 ?_ | refine Zc (sbegin_ok l l.length (Nat.le_refl _) hl) ?_ | refine Zd ?_ | refine Zh ?_ | refine Zi ?_ | refine Zm ?_ | refine Zo ?_ | refine ok_seq ?_ | refine Zq ?_
      | refine ok_block ?_ | refine ok_skip ?_ | refine x_normal_then ?_
    refine ok_for (ι := Nat) (fun x => envL [(4, vb false), (23, .d (.im (l.map eItm))), (24, vi l.length), (25, vi x)]) (fun x => stL []) (fun x => x ≤ l.length ∧ (l.drop x).all itemS = codeS l most) (fun x => l.length - x) 0 (⟨by omega, by rw [hn]; simp⟩) (weak_mk rfl ⟨.refl _, .refl _, .refl _, .refl _, trivial⟩ trivial) (fun _ => Nat.le_refl 0) ?_
    rintro k ⟨i1, i2⟩
    rcases hx : l[k]? with _ | x
    · have hle := none_le hx
      have ek : decide ((k : Int) < (l.length : Int)) = false := decide_eq_false (by omega)
      rw [drop_none hx] at i2
      repeat' first
        | refine Z1 ?_ | refine Z2 ?_ | refine Zo ?_ | refine ok_seq ?_ | refine Zq ?_ | refine ok_exit ?_ | refine ok_ret ?_ | refine x_normal_then ?_ | refine x_exit_here ?_ | refine Zv ?_ | refine Zt ?_
      exact ret_vb i2
    · obtain ⟨hd, hlt⟩ := drop_some hx
      have ek : decide ((k : Int) < (l.length : Int)) = true := decide_eq_true (by omega)
      rw [hd, List.all_cons] at i2
      cases hdx : itemS x with
      | false =>
        have ex : (!itemS x) = true := by rw [hdx]; rfl
        repeat' first
          | refine Z1 ?_ | refine Z2 ?_ | refine Z5 ?_ | refine Zc (sitem_ok x) ?_ | refine Ze ?_ | refine Zo ?_ | refine ok_seq ?_ | refine Zp ?_ | refine ok_block ?_ | refine ok_skip ?_ | refine ok_ret ?_ | refine x_normal_then ?_
          | refine x_ret_then ?_ | refine x_ret_block ?_ | refine Zt ?_
        exact ret_vb (by rw [← i2, hdx]; rfl)
      | true =>
        have ex : (!itemS x) = false := by rw [hdx]; rfl
        repeat' first
          | refine Z1 ?_ | refine Z2 ?_ | refine Z5 ?_ | refine Zc (sitem_ok x) ?_ | refine Ze ?_ | refine Zf ?_ | refine Zo ?_ | refine ok_seq ?_ | refine ok_reg ?_ | refine Zp ?_ | refine Zq ?_ | refine ok_block ?_ | refine ok_skip ?_
          | refine x_normal_then ?_ | refine x_normal_block ?_
        rw [hdx, Bool.true_and] at i2
        exact ⟨k + 1, ⟨by omega, i2⟩, by (try simp only); omega, low_mk (Nat.zero_le _) ⟨⟨rfl, rfl⟩, ⟨rfl, rfl⟩, ⟨rfl, rfl⟩, ⟨rfl, rfl⟩, trivial⟩ trivial⟩
end Go.Pm
/- Machines of the specification: variables, codes, values. -/
set_option linter.unusedVariables false
set_option linter.unusedSimpArgs false
namespace Go.Pm
attribute [local irreducible] AR Ok inBlock andThen endQ aoper
set_option maxHeartbeats 1000000
open Go.Proofs
def sNm (x : Slt) : ByteArray := x.name
def nmsC (c : Cls) : List ByteArray := c.ins.map sNm ++ c.outs.map sNm ++ c.locs
theorem nmsC_len (c : Cls) : (nmsC c).length = c.ins.length + c.outs.length + c.locs.length := by simp [nmsC, Nat.add_assoc]
theorem cls_le {c : Cls} (hw : wCls c ≤ 1048576) : c.ins.length + c.outs.length + c.locs.length + c.mems.length + c.insts.length + c.body.length ≤ 1048576 := by simp only [wCls, wL] at hw; omega
theorem svarsC_ok (c : Cls) (hw : wCls c ≤ 1048576) : PFun X 56 [.agg ((eCls c).map .d)] (.d (.im ((nmsC c).map eStr))) := by
  have hl := cls_le hw
  refine pfun_of Tryd.func56 rfl (by decide) Tryd.ntmps56 Tryd.results56 (by simp) rfl rfl ?_
  repeat' first
    | refine Z1 ?_ | refine Z2 ?_ | refine Z5 ?_ | refine op_bslice rfl rfl rfl rfl rfl rfl rfl ?_ | refine Zd ?_ | refine Zo ?_ | refine ok_seq ?_ | refine ok_block ?_
  refine ok_forR (ι := Nat × List ByteArray) (fun x_ => envL [(1, .ref 0 0), (3, .sl 1 2 0 x_.2.length), (10, .d (.im (c.ins.map eSlt))), (11, vi c.ins.length), (12, vi x_.1)]) (fun x_ => stL [some (.var ((eCls c).map .d)), some (.row 2 9 1 (im2 eStr x_.2)), none]) (fun x_ => x_.1 ≤ c.ins.length ∧ x_.2 = (c.ins.take x_.1).map sNm) (fun x_ => c.ins.length - x_.1) (0, []) (⟨Nat.zero_le _, rfl⟩) Turn.refl (lowR_mk [(2, 1)] rfl rfl rfl ⟨⟨rfl, rfl⟩, ⟨rfl, rfl⟩, ⟨rfl, rfl⟩, ⟨rfl, rfl⟩, ⟨rfl, rfl⟩, trivial⟩ ⟨⟨rfl, rfl⟩, ⟨renO_row rfl (by first | exact im2_ren _ _ _ | rfl), blt_lt rfl, im2_low _ _ _⟩, trivial⟩) ?_
  rintro ⟨k, L⟩ ⟨i1, i2⟩
  simp only at i1 i2
  have hL : L.length ≤ c.ins.length := by rw [i2]; simp; omega
  rcases hx : c.ins[k]? with _ | x
  · have hle := none_le hx
    have ek : decide ((k : Int) < (c.ins.length : Int)) = false := decide_eq_false (by omega)
    rw [List.take_of_length_le hle] at i2
    repeat' first
      | refine Z1 ?_ | refine Z2 ?_ | refine Z5 ?_ | refine Zd ?_ | refine Zo ?_ | refine ok_seq ?_ | refine Zq ?_ | refine ok_block ?_ | refine ok_exit ?_ | refine x_normal_then ?_ | refine x_exit_here ?_ | refine Zv ?_
    refine ok_forR (ι := Nat × List ByteArray) (fun x_ => envL [(1, .ref 0 0), (3, .sl 1 3 0 x_.2.length), (23, .d (.im (c.outs.map eSlt))), (24, vi c.outs.length), (25, vi x_.1)]) (fun x_ => stL [some (.var ((eCls c).map .d)), some (.row 3 9 1 (im2 eStr x_.2)), none, none]) (fun x_ => x_.1 ≤ c.outs.length ∧ x_.2 = L ++ (c.outs.take x_.1).map sNm) (fun x_ => c.outs.length - x_.1) (0, L) (⟨Nat.zero_le _, by simp⟩) Turn.refl (lowR_mk [(3, 2)] rfl rfl rfl ⟨⟨rfl, rfl⟩, ⟨rfl, rfl⟩, ⟨rfl, rfl⟩, ⟨rfl, rfl⟩, ⟨rfl, rfl⟩, trivial⟩ ⟨⟨rfl, rfl⟩, ⟨renO_row rfl (by first | exact im2_ren _ _ _ | rfl), blt_lt rfl, im2_low _ _ _⟩, trivial⟩) ?_
    rintro ⟨q, M⟩ ⟨j1, j2⟩
    simp only at j1 j2
    have hM : M.length ≤ c.ins.length + c.outs.length := by rw [j2]; simp; omega
    rcases hy : c.outs[q]? with _ | y
    · have hle2 := none_le hy
      have eq : decide ((q : Int) < (c.outs.length : Int)) = false := decide_eq_false (by omega)
      rw [List.take_of_length_le hle2] at j2
      repeat' first
        | refine Z1 ?_ | refine Z2 ?_ | refine Z5 ?_ | refine Yl (e := eStr) (l := M) c.locs ?_ | refine fz_rows (e := eStr) (l := M ++ c.locs) rfl 2 rfl rfl rfl ?_ | refine Zo ?_ | refine ok_seq ?_ | refine Zq ?_ | refine ok_exit ?_
        | refine ok_ret ?_ | refine x_normal_then ?_ | refine x_exit_here ?_ | refine Zv ?_ | refine Zt ?_
      rw [j2, i2]; rfl
    obtain ⟨hd, hlt⟩ := drop_some hy
    have eq : decide ((q : Int) < (c.outs.length : Int)) = true := decide_eq_true (by omega)
    repeat' first
      | refine Z1 ?_ | refine Z2 ?_ | refine Z3 ?_ | refine Z4 ?_ | refine Z5 ?_ | refine Yl (e := eStr) (l := M) [y.name] ?_ | refine Ze ?_ | refine Zf ?_ | refine Zo ?_ | refine ok_seq ?_ | refine ok_reg ?_ | refine Zp ?_
      | refine ok_block ?_ | refine ok_skip ?_ | refine x_normal_then ?_ | refine x_normal_block ?_
    exact ⟨(q + 1, M ++ [y.name]), ⟨hlt, by rw [j2, tk_push hy, List.map_append, List.append_assoc]; rfl⟩, by (try simp only); omega, lowR_mk [(3, 6)] rfl rfl rfl ⟨⟨rfl, rfl⟩, ⟨rfl, rfl⟩, ⟨rfl, rfl⟩, ⟨rfl, rfl⟩, ⟨rfl, rfl⟩, trivial⟩ ⟨⟨rfl, rfl⟩, ⟨renO_row rfl (by first | exact im2_ren _ _ _ | rfl), blt_lt rfl, im2_low _ _ _⟩, trivial⟩⟩
  obtain ⟨hd, hlt⟩ := drop_some hx
  have ek : decide ((k : Int) < (c.ins.length : Int)) = true := decide_eq_true (by omega)
  repeat' first
    | refine Z1 ?_ | refine Z2 ?_ | refine Z3 ?_ | refine Z4 ?_ | refine Z5 ?_ | refine Yl (e := eStr) (l := L) [x.name] ?_ | refine Ze ?_ | refine Zf ?_ | refine Zo ?_ | refine ok_seq ?_ | refine ok_reg ?_ | refine Zp ?_ | refine ok_block ?_
    | refine ok_skip ?_ | refine x_normal_then ?_ | refine x_normal_block ?_
  exact ⟨(k + 1, L ++ [x.name]), ⟨hlt, by rw [i2, tk_push hx, List.map_append]; rfl⟩, by (try simp only); omega, lowR_mk [(2, 5)] rfl rfl rfl ⟨⟨rfl, rfl⟩, ⟨rfl, rfl⟩, ⟨rfl, rfl⟩, ⟨rfl, rfl⟩, ⟨rfl, rfl⟩, trivial⟩ ⟨⟨rfl, rfl⟩, ⟨renO_row rfl (by first | exact im2_ren _ _ _ | rfl), blt_lt rfl, im2_low _ _ _⟩, trivial⟩⟩
end Go.Pm
/- Machines of the specification: places, codes, values. -/
set_option linter.unusedVariables false
set_option linter.unusedSimpArgs false
namespace Go.Pm
attribute [local irreducible] AR Ok inBlock andThen endQ aoper
set_option maxHeartbeats 1000000
open Go.Proofs
def placeS (s : ByteArray) : Nat → List ByteArray → Int
  | _, [] => -1
  | i, x :: l => if x = s then (i : Int) else placeS s (i + 1) l
theorem splace_ok (l : List ByteArray) (s : ByteArray) (hl : l.length ≤ 1048576) : PFun X 57 [.d (.im (l.map eStr)), vs s] (vi (placeS s 0 l)) := by
  refine pfun_of Tryd.func57 rfl (by decide) Tryd.ntmps57 Tryd.results57 (by simp) rfl rfl ?_
  repeat' first
    | refine Z1 ?_ | refine Z2 ?_ | refine Z5 ?_ | refine Zd ?_ | refine Zo ?_ | refine ok_seq ?_ | refine ok_block ?_
  refine ok_for (ι := Nat) (fun x => envL [(1, vs s), (7, .d (.im (l.map eStr))), (8, vi l.length), (9, vi x)]) (fun x => stL []) (fun x => x ≤ l.length ∧ placeS s x (l.drop x) = placeS s 0 l) (fun x => l.length - x) 0 (⟨Nat.zero_le _, rfl⟩) (weak_mk rfl ⟨.refl _, .refl _, .refl _, .refl _, trivial⟩ trivial) (fun _ => Nat.le_refl 0) ?_
  rintro k ⟨i1, i2⟩
  rcases hx : l[k]? with _ | x
  · have hle := none_le hx
    have ek : decide ((k : Int) < (l.length : Int)) = false := decide_eq_false (by omega)
    rw [drop_none hx] at i2
    repeat' first
      | refine Z1 ?_ | refine Z2 ?_ | refine Zo ?_ | refine ok_seq ?_ | refine Zq ?_ | refine ok_exit ?_ | refine ok_ret ?_ | refine x_normal_then ?_ | refine x_exit_here ?_ | refine Zv ?_ | refine Zt ?_
    exact ret_vi i2
  obtain ⟨hd, hlt⟩ := drop_some hx
  have ek : decide ((k : Int) < (l.length : Int)) = true := decide_eq_true (by omega)
  rw [hd] at i2
  simp only [placeS] at i2
  by_cases h : x = s
  · have e1 : decide (x = s) = true := decide_eq_true h
    rw [if_pos h] at i2
    repeat' first
      | refine Z1 ?_ | refine Z2 ?_ | refine Z5 ?_ | refine Ze ?_ | refine Zo ?_ | refine ok_seq ?_ | refine Zp ?_ | refine ok_block ?_ | refine ok_skip ?_ | refine ok_ret ?_ | refine x_normal_then ?_ | refine x_ret_then ?_
      | refine x_ret_block ?_ | refine Zt ?_
    exact ret_vi i2
  · have e1 : decide (x = s) = false := decide_eq_false h
    rw [if_neg h] at i2
    repeat' first
      | refine Z1 ?_ | refine Z2 ?_ | refine Z5 ?_ | refine Ze ?_ | refine Zf ?_ | refine Zo ?_ | refine ok_seq ?_ | refine ok_reg ?_ | refine Zp ?_ | refine Zq ?_ | refine ok_block ?_ | refine ok_skip ?_ | refine x_normal_then ?_
      | refine x_normal_block ?_
    exact ⟨k + 1, ⟨hlt, i2⟩, by (try simp only); omega, low_mk (Nat.zero_le _) ⟨⟨rfl, rfl⟩, ⟨rfl, rfl⟩, ⟨rfl, rfl⟩, ⟨rfl, rfl⟩, trivial⟩ trivial⟩
def setS (c : Cls) (x : ByteArray) : Bool := decide ((c.ins.length : Int) ≤ placeS x 0 (nmsC c))
theorem nms_le {c : Cls} (hw : wCls c ≤ 1048576) : (nmsC c).length ≤ 1048576 := by have := cls_le hw; rw [nmsC_len]; omega
theorem sset_ok (c : Cls) (x : ByteArray) (hw : wCls c ≤ 1048576) : PFun X 77 [.agg ((eCls c).map .d), vs x] (vb (setS c x)) := by
  have hl := nms_le hw
  refine pfun_of Tryd.func77 rfl (by decide) Tryd.ntmps77 Tryd.results77 (by simp) rfl rfl ?_
  repeat' first
    | refine Z1 ?_ | refine Z2 ?_ | refine Zw ?_ | refine Zx ?_ | refine Zz (Zc (svarsC_ok c hw) ⟨rfl, rfl⟩) ?_ | refine Zz (Zc (splace_ok (nmsC c) x hl) ⟨rfl, rfl⟩) ?_ | refine Zz (Zd ⟨rfl, rfl⟩) ?_ | refine Zo ?_ | refine ok_seq ?_
    | refine ok_draw X_mixed (by decide +kernel) ?_ | refine ok_ret ?_ | refine Zt ?_
  rfl
def itmS (c : Cls) (t : Itm) : Bool := if (20 < t.op ∧ t.op ≠ 25) ∨ (t.op = 3 ∧ inS (nmsC c) t.name = false) ∨ (t.op = 25 ∧ (t.val < 0 ∨ (c.mems.length : Int) ≤ t.val)) then false else true
def mcodeS (c : Cls) (l : List Itm) : Bool := codeS l 6000 && l.all (itmS c)
theorem mcode_ok (c : Cls) (l : List Itm) (hw : wCls c ≤ 1048576) (hl : l.length ≤ 1048576) : PFun X 78 [.agg ((eCls c).map .d), .d (.im (l.map eItm))] (vb (mcodeS c l)) := by
  have hn := nms_le hw
  refine pfun_of Tryd.func78 rfl (by decide) Tryd.ntmps78 Tryd.results78 (by simp) rfl rfl ?_
  cases hc : codeS l 6000 with
  | false =>
    have e1 : (!codeS l 6000) = true := by rw [hc]; rfl
    repeat' first
      | refine Z1 ?_ | refine Z2 ?_ | refine Z5 ?_ | refine Zc (scode_ok l 6000 hl) ?_ | refine Zo ?_ | refine ok_seq ?_ | refine Zp ?_ | refine ok_ret ?_ | refine x_ret_then ?_ | refine Zt ?_
    exact ret_vb (by rw [mcodeS, hc]; rfl)
  | true =>
  have e1 : (!codeS l 6000) = false := by rw [hc]; rfl
  have hm : l.all (itmS c) = mcodeS c l := by rw [mcodeS, hc]; rfl
  repeat' first
    | refine Z1 ?_ | refine Z2 ?_ | refine Z5 ?_ | refine Zc (scode_ok l 6000 hl) ?_ | refine Zd ?_ | refine Zo ?_ | refine ok_seq ?_ | refine Zq ?_ | refine ok_block ?_ | refine ok_skip ?_ | refine x_normal_then ?_
  refine ok_for (ι := Nat) (fun x => envL [(1, .d (.im (l.map eItm))), (2, .ref 0 0), (4, vb false), (10, .d (.im (l.map eItm))), (11, vi l.length), (12, vi x)]) (fun x => stL [some (.var ((eCls c).map .d))]) (fun x => x ≤ l.length ∧ (l.drop x).all (itmS c) = mcodeS c l) (fun x => l.length - x) 0 (⟨Nat.zero_le _, hm⟩) (weak_mk rfl ⟨.refl _, .refl _, .refl _, .refl _, .refl _, .refl _, trivial⟩ ⟨⟨rfl, _, rfl, rfl, fun _ _ _ => .refl _⟩, trivial⟩) (fun _ => Nat.le_refl 1) ?_
  rintro k ⟨i1, i2⟩
  rcases hx : l[k]? with _ | t
  · have hle := none_le hx
    have ek : decide ((k : Int) < (l.length : Int)) = false := decide_eq_false (by omega)
    rw [drop_none hx] at i2
    repeat' first
      | refine Z1 ?_ | refine Z2 ?_ | refine Zo ?_ | refine ok_seq ?_ | refine Zq ?_ | refine ok_exit ?_ | refine ok_ret ?_ | refine x_normal_then ?_ | refine x_exit_here ?_ | refine Zv ?_ | refine Zt ?_
    exact ret_vb i2
  obtain ⟨hd, hlt⟩ := drop_some hx
  have ek : decide ((k : Int) < (l.length : Int)) = true := decide_eq_true (by omega)
  rw [hd, List.all_cons] at i2
  have fin : itmS c t = false → false = mcodeS c l := fun h => by rw [← i2, h]; rfl
  by_cases h1 : 20 < t.op ∧ t.op ≠ 25
  · have d1 : decide (20 < t.op) = true := decide_eq_true h1.1
    have d2 : decide (t.op ≠ 25) = true := decide_eq_true h1.2
    have hf := fin (by simp only [itmS, h1, true_or, if_true, and_self, ne_eq, not_false_eq_true])
    repeat' first
      | refine Z1 ?_ | refine Z2 ?_ | refine Z5 ?_ | refine Z7 ?_ | refine Ze ?_ | refine Zh ?_ | refine Zi ?_ | refine Zl ?_ | refine Zo ?_ | refine ok_seq ?_ | refine Zp ?_ | refine ok_block ?_ | refine ok_skip ?_ | refine ok_ret ?_
      | refine x_normal_then ?_ | refine x_ret_then ?_ | refine x_ret_block ?_ | refine Zt ?_
    exact ret_vb hf
  have go : ∀ Q : Prop, (decide (20 < t.op) = false → Q) → (decide (20 < t.op) = true → decide (t.op ≠ 25) = false → Q) → Q := by
    intro Q a b
    by_cases h : 20 < t.op
    · exact b (decide_eq_true h) (decide_eq_false fun g => h1 ⟨h, g⟩)
    · exact a (decide_eq_false h)
  by_cases h2 : t.op = 3 ∧ inS (nmsC c) t.name = false
  · have d3 : decide (t.op = 3) = true := decide_eq_true h2.1
    have d0 : decide (20 < t.op) = false := decide_eq_false (by omega)
    have d4 : (!inS (nmsC c) t.name) = true := by rw [h2.2]; rfl
    have hf := fin (by unfold itmS; rw [if_pos (.inr (.inl h2))])
    repeat' first
      | refine Z1 ?_ | refine Z2 ?_ | refine Z5 ?_ | refine Z8 ?_ | refine Ze ?_ | refine Zm ?_ | refine Zw ?_ | refine Zx ?_ | refine Ua ?_ | refine Zz (Zl ⟨rfl, rfl⟩) ?_ | refine Ue (Zc (svarsC_ok c hw) ⟨rfl, rfl⟩) ?_
      | refine Ue (Zc (sin_ok (nmsC c) t.name hn) ⟨rfl, rfl⟩) ?_ | refine Zo ?_ | refine ok_seq ?_ | refine ok_draw X_mixed (by decide +kernel) ?_ | refine Zp ?_ | refine Zq ?_ | refine ok_block ?_ | refine ok_skip ?_ | refine ok_ret ?_
      | refine x_normal_then ?_ | refine x_ret_then ?_ | refine x_ret_block ?_ | refine Zt ?_
    exact ret_vb hf
  by_cases h3 : t.op = 25 ∧ (t.val < 0 ∨ (c.mems.length : Int) ≤ t.val)
  · have d3 : decide (t.op = 3) = false := decide_eq_false (by omega)
    have d0 : decide (20 < t.op) = true := decide_eq_true (by omega)
    have d1 : decide (t.op ≠ 25) = false := decide_eq_false (fun h => h h3.1)
    have d4 : decide (t.op = 25) = true := decide_eq_true h3.1
    have hf := fin (by unfold itmS; rw [if_pos (.inr (.inr h3))])
    by_cases h4 : t.val < 0
    · have d5 : decide (t.val < 0) = true := decide_eq_true h4
      repeat' first
        | refine Z1 ?_ | refine Z2 ?_ | refine Z5 ?_ | refine Z7 ?_ | refine Z9 ?_ | refine Ze ?_ | refine Zh ?_ | refine Zi ?_ | refine Zl ?_ | refine Zw ?_ | refine Zx ?_ | refine Ub ?_ | refine Zz (Zm ⟨rfl, rfl⟩) ?_ | refine Zo ?_
        | refine ok_seq ?_ | refine ok_draw X_mixed (by decide +kernel) ?_ | refine Zp ?_ | refine Zq ?_ | refine ok_block ?_ | refine ok_skip ?_ | refine ok_ret ?_ | refine x_normal_then ?_ | refine x_ret_then ?_ | refine x_ret_block ?_
        | refine Zt ?_
      exact ret_vb hf
    · have d5 : decide (t.val < 0) = false := decide_eq_false h4
      have d6 : decide ((c.mems.length : Int) ≤ t.val) = true := decide_eq_true (by omega)
      repeat' first
        | refine Z1 ?_ | refine Z2 ?_ | refine Z5 ?_ | refine Z7 ?_ | refine Zd ?_ | refine Ze ?_ | refine Zh ?_ | refine Zi ?_ | refine Zl ?_ | refine Zm ?_ | refine Zw ?_ | refine Zx ?_ | refine Ub ?_ | refine Zz (Zm ⟨rfl, rfl⟩) ?_
        | refine Zo ?_ | refine ok_seq ?_ | refine ok_draw X_mixed (by decide +kernel) ?_ | refine Zp ?_ | refine Zq ?_ | refine ok_block ?_ | refine ok_skip ?_ | refine ok_ret ?_ | refine x_normal_then ?_ | refine x_ret_then ?_
        | refine x_ret_block ?_ | refine Zt ?_
      exact ret_vb hf
  have hg : (l.drop (k + 1)).all (itmS c) = mcodeS c l := by
    rw [← i2, show itmS c t = true by unfold itmS; rw [if_neg (fun h => h.elim h1 (fun h => h.elim h2 h3))]]; rfl
  by_cases o3 : t.op = 3
  · have d3 : decide (t.op = 3) = true := decide_eq_true o3
    have d0 : decide (20 < t.op) = false := decide_eq_false (by omega)
    have d4 : (!inS (nmsC c) t.name) = false := by cases hq : inS (nmsC c) t.name with | true => rfl | false => exact absurd ⟨o3, hq⟩ h2
    have d7 : decide (t.op = 25) = false := decide_eq_false (by omega)
    repeat' first
      | refine Z1 ?_ | refine Z2 ?_ | refine Z5 ?_ | refine Z6 ?_ | refine Z8 ?_ | refine Ze ?_ | refine Zf ?_ | refine Zm ?_ | refine Zw ?_ | refine Zx ?_ | refine Ua ?_ | refine Zz (Zl ⟨rfl, rfl⟩) ?_
      | refine Ue (Zc (svarsC_ok c hw) ⟨rfl, rfl⟩) ?_ | refine Ue (Zc (sin_ok (nmsC c) t.name hn) ⟨rfl, rfl⟩) ?_ | refine Zo ?_ | refine ok_seq ?_ | refine ok_reg ?_ | refine ok_draw X_mixed (by decide +kernel) ?_ | refine Zp ?_ | refine Zq ?_
      | refine ok_block ?_ | refine ok_skip ?_ | refine x_normal_then ?_ | refine x_normal_block ?_
    exact ⟨k + 1, ⟨hlt, hg⟩, by (try simp only); omega, low_mk (Nat.le_of_ble_eq_true rfl) ⟨⟨rfl, rfl⟩, ⟨rfl, rfl⟩, ⟨rfl, rfl⟩, ⟨rfl, rfl⟩, ⟨rfl, rfl⟩, ⟨rfl, rfl⟩, trivial⟩ ⟨⟨rfl, rfl⟩, trivial⟩⟩
  have d3 : decide (t.op = 3) = false := decide_eq_false o3
  by_cases o25 : t.op = 25
  · have d7 : decide (t.op = 25) = true := decide_eq_true o25
    have d0 : decide (20 < t.op) = true := decide_eq_true (by omega)
    have d1 : decide (t.op ≠ 25) = false := decide_eq_false (fun h => h o25)
    have d5 : decide (t.val < 0) = false := decide_eq_false (fun h => h3 ⟨o25, .inl h⟩)
    have d6 : decide ((c.mems.length : Int) ≤ t.val) = false := decide_eq_false (fun h => h3 ⟨o25, .inr h⟩)
    repeat' first
      | refine Z1 ?_ | refine Z2 ?_ | refine Z5 ?_ | refine Z7 ?_ | refine Zd ?_ | refine Ze ?_ | refine Zf ?_ | refine Zh ?_ | refine Zi ?_ | refine Zl ?_ | refine Zm ?_ | refine Zw ?_ | refine Zx ?_ | refine Ub ?_
      | refine Zz (Zm ⟨rfl, rfl⟩) ?_ | refine Zo ?_ | refine ok_seq ?_ | refine ok_reg ?_ | refine ok_draw X_mixed (by decide +kernel) ?_ | refine Zp ?_ | refine Zq ?_ | refine ok_block ?_ | refine ok_skip ?_ | refine x_normal_then ?_
      | refine x_normal_block ?_
    exact ⟨k + 1, ⟨hlt, hg⟩, by (try simp only); omega, low_mk (Nat.le_of_ble_eq_true rfl) ⟨⟨rfl, rfl⟩, ⟨rfl, rfl⟩, ⟨rfl, rfl⟩, ⟨rfl, rfl⟩, ⟨rfl, rfl⟩, ⟨rfl, rfl⟩, trivial⟩ ⟨⟨rfl, rfl⟩, trivial⟩⟩
  · have d7 : decide (t.op = 25) = false := decide_eq_false o25
    have d0 : decide (20 < t.op) = false := decide_eq_false (fun h => h1 ⟨h, o25⟩)
    repeat' first
      | refine Z1 ?_ | refine Z2 ?_ | refine Z5 ?_ | refine Z6 ?_ | refine Z8 ?_ | refine Ze ?_ | refine Zf ?_ | refine Zm ?_ | refine Zw ?_ | refine Zx ?_ | refine Ub ?_ | refine Zz (Zm ⟨rfl, rfl⟩) ?_ | refine Zo ?_ | refine ok_seq ?_
      | refine ok_reg ?_ | refine ok_draw X_mixed (by decide +kernel) ?_ | refine Zp ?_ | refine Zq ?_ | refine ok_block ?_ | refine ok_skip ?_ | refine x_normal_then ?_ | refine x_normal_block ?_
    exact ⟨k + 1, ⟨hlt, hg⟩, by (try simp only); omega, low_mk (Nat.le_of_ble_eq_true rfl) ⟨⟨rfl, rfl⟩, ⟨rfl, rfl⟩, ⟨rfl, rfl⟩, ⟨rfl, rfl⟩, ⟨rfl, rfl⟩, ⟨rfl, rfl⟩, trivial⟩ ⟨⟨rfl, rfl⟩, trivial⟩⟩
def writesS (s : Sm) (x : ByteArray) : Bool := (decide (s.kind = 1) && decide (s.name = x)) || (decide (s.kind = 3) && inS s.outs x)
theorem swrites_ok (s : Sm) (x : ByteArray) (hw : wSm s ≤ 1048576) : PFun X 62 [.agg ((eSm s).map .d), vs x] (vb (writesS s x)) := by
  have hl : s.outs.length ≤ 1048576 := by simp only [wSm, wL] at hw; omega
  refine pfun_of Tryd.func62 rfl (by decide) Tryd.ntmps62 Tryd.results62 (by simp) rfl rfl ?_
  repeat' first
    | refine Z1 ?_ | refine Z2 ?_ | refine Z5 ?_ | refine Z6 ?_ | refine Z7 ?_ | refine Z8 ?_ | refine Z9 ?_ | refine Za (fun hc => ?_) (fun hc => ?_) | refine Zb (fun hc => ?_) (fun hc => ?_) | refine Zc (sin_ok s.outs x hl) ?_ | refine Zh ?_
    | refine Zi ?_ | refine Zl ?_ | refine Zm ?_ | refine Zo ?_ | refine ok_ret ?_ | refine Zt ?_
  all_goals (refine ret_vb ?_; unfold writesS; grind)
def wrapS (v : Int) : Int := IntKind.i64.wrap (IntKind.i32.wrap v)
theorem swrap_ok (v : Int) : PFun X 58 [vi v] (vi (wrapS v)) := by
  refine pfun_of Tryd.func58 rfl (by decide) Tryd.ntmps58 Tryd.results58 (by simp) rfl rfl ?_
  repeat' first
    | refine Z1 ?_ | refine Z2 ?_ | refine Z5 ?_ | refine Ycv ?_ | refine Zo ?_ | refine ok_ret ?_ | refine Zt ?_
  rfl
end Go.Pm
/- Machines of the specification: the parts of an If, nesting. -/
set_option linter.unusedVariables false
set_option linter.unusedSimpArgs false
namespace Go.Pm
attribute [local irreducible] AR Ok inBlock andThen endQ aoper
set_option maxHeartbeats 1000000
open Go.Proofs
def tupI (p : Int × Int) : AV := .tup [vi p.1, vi p.2]
theorem ret_tupI {a b : Int} {p : Int × Int} (h : (a, b) = p) : AEnd.ret (.tup [vi a, vi b]) = AEnd.ret (tupI p) := by rw [← h]; rfl
theorem sparts_ok (l : List Sm) (i : Nat) (hi : i ≤ l.length) (hl : l.length ≤ 1048576) : PFun X 61 [.d (.im (l.map eSm)), vi i] (tupI (partsS l i)) := by
  refine pfun_of Tryd.func61 rfl (by decide) Tryd.ntmps61 Tryd.results61 (by simp) rfl rfl ?_
  repeat' first
    | refine Z1 ?_ | refine Z2 ?_ | refine Zo ?_ | refine ok_seq ?_ | refine ok_block ?_
  refine ok_for (ι := Nat × Int × Int) (fun x_ => envL [(0, .d (.im (l.map eSm))), (4, vi 0), (5, vi 0), (6, vi x_.2.1), (7, vi x_.2.2), (8, vi x_.1)]) (fun x_ => stL []) (fun x_ => i ≤ x_.1 ∧ x_.1 ≤ l.length ∧ -(x_.1 : Int) ≤ x_.2.1 ∧ x_.2.1 ≤ (x_.1 : Int) ∧ partsGo (l.drop x_.1) x_.1 x_.2.1 x_.2.2 = partsS l i) (fun x_ => l.length - x_.1) (i, 0, -1) (⟨Nat.le_refl _, hi, by simp only; omega, by simp only; omega, rfl⟩) (weak_mk rfl ⟨.refl _, .refl _, .refl _, .refl _, .refl _, .refl _, trivial⟩ trivial) (fun _ => Nat.le_refl 0) ?_
  rintro ⟨j, d, o⟩ ⟨i1, i2, i3, i4, i5⟩
  simp only at i1 i2 i3 i4 i5
  dsimp only
  rcases hx : l[j]? with _ | s
  · have hle := none_le hx
    have ek : decide ((j : Int) < (l.length : Int)) = false := decide_eq_false (by omega)
    rw [drop_none hx] at i5
    repeat' first
      | refine Z1 ?_ | refine Z2 ?_ | refine Z5 ?_ | refine Zd ?_ | refine ret2 ?_ | refine Zo ?_ | refine ok_seq ?_ | refine Zq ?_ | refine ok_exit ?_ | refine ok_ret ?_ | refine x_normal_then ?_ | refine x_exit_here ?_ | refine Zv ?_
    exact ret_tupI i5
  obtain ⟨hd, hlt⟩ := drop_some hx
  have ek : decide ((j : Int) < (l.length : Int)) = true := decide_eq_true (by omega)
  rw [hd] at i5
  simp only [partsGo] at i5
  by_cases k4 : s.kind = 4
  · have d4 : decide (s.kind = 4) = true := decide_eq_true k4
    rw [if_pos k4] at i5
    repeat' first
      | refine Z1 ?_ | refine Z2 ?_ | refine Z3 ?_ | refine Z5 ?_ | refine Zd ?_ | refine Ze ?_ | refine Zf ?_ | refine Zo ?_ | refine ok_seq ?_ | refine ok_reg ?_ | refine Zp ?_ | refine ok_block ?_ | refine ok_skip ?_
      | refine x_normal_then ?_ | refine x_normal_block ?_
    exact ⟨(j + 1, d + 1, o), ⟨by simp only; omega, hlt, by simp only; omega, by simp only; omega, i5⟩, by (try simp only); omega, low_mk (Nat.zero_le _) ⟨⟨rfl, rfl⟩, ⟨rfl, rfl⟩, ⟨rfl, rfl⟩, ⟨rfl, rfl⟩, ⟨rfl, rfl⟩, ⟨rfl, rfl⟩, trivial⟩ trivial⟩
  have d4 : decide (s.kind = 4) = false := decide_eq_false k4
  rw [if_neg k4] at i5
  by_cases k5 : s.kind = 5
  · have d5 : decide (s.kind = 5) = true := decide_eq_true k5
    rw [if_pos k5] at i5
    by_cases h1 : d = 1
    · have e1 : decide (d = 1) = true := decide_eq_true h1
      rw [if_pos h1] at i5
      by_cases h0 : 0 ≤ o
      · have e0 : decide (0 ≤ o) = true := decide_eq_true h0
        rw [if_pos h0] at i5
        repeat' first
          | refine Z1 ?_ | refine Z2 ?_ | refine Z5 ?_ | refine Zd ?_ | refine Ze ?_ | refine ret2 ?_ | refine Zo ?_ | refine ok_seq ?_ | refine Zp ?_ | refine Zq ?_ | refine ok_block ?_ | refine ok_skip ?_ | refine ok_ret ?_
          | refine x_normal_then ?_ | refine x_ret_then ?_ | refine x_ret_block ?_
        exact ret_tupI i5
      · have e0 : decide (0 ≤ o) = false := decide_eq_false h0
        rw [if_neg h0] at i5
        repeat' first
          | refine Z1 ?_ | refine Z2 ?_ | refine Z3 ?_ | refine Z5 ?_ | refine Zd ?_ | refine Ze ?_ | refine Zf ?_ | refine Zo ?_ | refine ok_seq ?_ | refine ok_reg ?_ | refine Zp ?_ | refine Zq ?_ | refine ok_block ?_ | refine ok_skip ?_
          | refine x_normal_then ?_ | refine x_normal_block ?_
        exact ⟨(j + 1, d, (j : Int)), ⟨by simp only; omega, hlt, by simp only; omega, by simp only; omega, i5⟩, by (try simp only); omega, low_mk (Nat.zero_le _) ⟨⟨rfl, rfl⟩, ⟨rfl, rfl⟩, ⟨rfl, rfl⟩, ⟨rfl, rfl⟩, ⟨rfl, rfl⟩, ⟨rfl, rfl⟩, trivial⟩ trivial⟩
    · have e1 : decide (d = 1) = false := decide_eq_false h1
      rw [if_neg h1] at i5
      repeat' first
        | refine Z1 ?_ | refine Z2 ?_ | refine Z5 ?_ | refine Zd ?_ | refine Ze ?_ | refine Zf ?_ | refine Zo ?_ | refine ok_seq ?_ | refine ok_reg ?_ | refine Zp ?_ | refine Zq ?_ | refine ok_block ?_ | refine ok_skip ?_
        | refine x_normal_then ?_ | refine x_normal_block ?_
      exact ⟨(j + 1, d, o), ⟨by simp only; omega, hlt, by simp only; omega, by simp only; omega, i5⟩, by (try simp only); omega, low_mk (Nat.zero_le _) ⟨⟨rfl, rfl⟩, ⟨rfl, rfl⟩, ⟨rfl, rfl⟩, ⟨rfl, rfl⟩, ⟨rfl, rfl⟩, ⟨rfl, rfl⟩, trivial⟩ trivial⟩
  have d5 : decide (s.kind = 5) = false := decide_eq_false k5
  rw [if_neg k5] at i5
  by_cases k6 : s.kind = 6
  · have d6 : decide (s.kind = 6) = true := decide_eq_true k6
    rw [if_pos k6] at i5
    by_cases h1 : d - 1 = 0
    · have e1 : decide (d - 1 = 0) = true := decide_eq_true h1
      rw [if_pos h1] at i5
      repeat' first
        | refine Z1 ?_ | refine Z2 ?_ | refine Z5 ?_ | refine Zd ?_ | refine Ze ?_ | refine Zg ?_ | refine ret2 ?_ | refine Zo ?_ | refine ok_seq ?_ | refine Zp ?_ | refine Zq ?_ | refine ok_block ?_ | refine ok_skip ?_ | refine ok_ret ?_
        | refine x_normal_then ?_ | refine x_ret_then ?_ | refine x_ret_block ?_
      exact ret_tupI i5
    · have e1 : decide (d - 1 = 0) = false := decide_eq_false h1
      rw [if_neg h1] at i5
      repeat' first
        | refine Z1 ?_ | refine Z2 ?_ | refine Z5 ?_ | refine Zd ?_ | refine Ze ?_ | refine Zf ?_ | refine Zg ?_ | refine Zo ?_ | refine ok_seq ?_ | refine ok_reg ?_ | refine Zp ?_ | refine Zq ?_ | refine ok_block ?_ | refine ok_skip ?_
        | refine x_normal_then ?_ | refine x_normal_block ?_
      exact ⟨(j + 1, d - 1, o), ⟨by simp only; omega, hlt, by simp only; omega, by simp only; omega, i5⟩, by (try simp only); omega, low_mk (Nat.zero_le _) ⟨⟨rfl, rfl⟩, ⟨rfl, rfl⟩, ⟨rfl, rfl⟩, ⟨rfl, rfl⟩, ⟨rfl, rfl⟩, ⟨rfl, rfl⟩, trivial⟩ trivial⟩
  have d6 : decide (s.kind = 6) = false := decide_eq_false k6
  rw [if_neg k6] at i5
  repeat' first
    | refine Z1 ?_ | refine Z2 ?_ | refine Z5 ?_ | refine Zd ?_ | refine Ze ?_ | refine Zf ?_ | refine Zo ?_ | refine ok_seq ?_ | refine ok_reg ?_ | refine Zp ?_ | refine Zq ?_ | refine ok_block ?_ | refine ok_skip ?_ | refine x_normal_then ?_
    | refine x_normal_block ?_
  exact ⟨(j + 1, d, o), ⟨by simp only; omega, hlt, by simp only; omega, by simp only; omega, i5⟩, by (try simp only); omega, low_mk (Nat.zero_le _) ⟨⟨rfl, rfl⟩, ⟨rfl, rfl⟩, ⟨rfl, rfl⟩, ⟨rfl, rfl⟩, ⟨rfl, rfl⟩, ⟨rfl, rfl⟩, trivial⟩ trivial⟩
end Go.Pm
/- Machines of the specification: nesting. -/
set_option linter.unusedVariables false
set_option linter.unusedSimpArgs false
namespace Go.Pm
attribute [local irreducible] AR Ok inBlock andThen endQ aoper
set_option maxHeartbeats 1000000
open Go.Proofs
/-- The parts of an If that are cut out of a list. -/
theorem cut_parts {l y n r2 : List Sm} {i : Nat} {s e f : Sm} (hd : l.drop i = s :: (y ++ e :: (n ++ f :: r2))) :
    i + 1 + y.length + 1 + n.length < l.length ∧ (l.drop (i + 1)).take (i + 1 + y.length - (i + 1)) = y ∧ (l.drop (i + 1 + y.length + 1)).take (i + 1 + y.length + 1 + n.length - (i + 1 + y.length + 1)) = n ∧ l.drop (i + 1 + y.length + 1 + n.length + 1) = r2 := by
  have h1 : l.drop (i + 1) = y ++ e :: (n ++ f :: r2) := by rw [← List.drop_drop, hd]; rfl
  have h2 : l.drop (i + 1 + y.length + 1) = n ++ f :: r2 := by rw [show i + 1 + y.length + 1 = i + 1 + (y.length + 1) by omega, ← List.drop_drop, h1, ← List.drop_drop, List.drop_left]; rfl
  have h3 : l.drop (i + 1 + y.length + 1 + n.length + 1) = r2 := by rw [show i + 1 + y.length + 1 + n.length + 1 = i + 1 + y.length + 1 + (n.length + 1) by omega, ← List.drop_drop, h2, ← List.drop_drop, List.drop_left]; rfl
  refine ⟨?_, ?_, ?_, h3⟩
  · have := congrArg List.length hd
    simp only [List.length_drop, List.length_cons, List.length_append] at this
    omega
  · rw [h1, show i + 1 + y.length - (i + 1) = y.length by omega, List.take_left]
  · rw [h2, show i + 1 + y.length + 1 + n.length - (i + 1 + y.length + 1) = n.length by omega, List.take_left]
set_option maxHeartbeats 4000000 in
theorem snest_ok : ∀ (N : Nat) (l : List Sm) (d : Int), l.length = N → l.length ≤ 1048576 → 0 ≤ d → d + l.length ≤ 2097152 → PFun X 60 [.d (.im (l.map eSm)), vi d] (vb (nestV l d)) := by
  intro N
  induction N using Nat.strongRecOn with
  | _ N ih =>
    intro l d hN hl hd0 hd1
    refine pfun_of Tryd.func60 rfl (by decide) Tryd.ntmps60 Tryd.results60 (by simp) rfl rfl ?_
    repeat' first
      | refine Z1 ?_ | refine Z2 ?_ | refine Zo ?_ | refine ok_seq ?_ | refine ok_block ?_
    refine ok_for (ι := Nat) (fun x => envL [(0, .d (.im (l.map eSm))), (1, vi d), (4, vb false), (5, vi x)]) (fun x => stL []) (fun x => x ≤ l.length ∧ nestV (l.drop x) d = nestV l d) (fun x => l.length - x) 0 (⟨Nat.zero_le _, rfl⟩) (weak_mk rfl ⟨.refl _, .refl _, .refl _, .refl _, trivial⟩ trivial) (fun _ => Nat.le_refl 0) ?_
    rintro i ⟨i1, i2⟩
    rcases hx : l[i]? with _ | s
    · have hle := none_le hx
      have ek : decide ((i : Int) < (l.length : Int)) = false := decide_eq_false (by omega)
      rw [drop_none hx, nestV_nil] at i2
      repeat' first
        | refine Z1 ?_ | refine Z2 ?_ | refine Z5 ?_ | refine Zd ?_ | refine Zo ?_ | refine ok_seq ?_ | refine Zq ?_ | refine ok_exit ?_ | refine ok_ret ?_ | refine x_normal_then ?_ | refine x_exit_here ?_ | refine Zv ?_ | refine Zt ?_
      exact ret_vb i2
    obtain ⟨hd, hlt⟩ := drop_some hx
    have ek : decide ((i : Int) < (l.length : Int)) = true := decide_eq_true (by omega)
    have fin : nestV (l.drop i) d = false → false = nestV l d := fun h => by rw [← i2, h]
    by_cases k5 : s.kind = 5
    · have d5 : decide (s.kind = 5) = true := decide_eq_true k5
      have hf := fin (by rw [hd]; exact nestV_bad (.inl k5) d)
      repeat' first
        | refine Z1 ?_ | refine Z2 ?_ | refine Z5 ?_ | refine Zd ?_ | refine Ze ?_ | refine Zo ?_ | refine ok_seq ?_ | refine Zp ?_ | refine ok_block ?_ | refine ok_skip ?_ | refine ok_ret ?_ | refine x_normal_then ?_ | refine x_ret_then ?_
        | refine x_ret_block ?_ | refine Zt ?_
      exact ret_vb hf
    have d5 : decide (s.kind = 5) = false := decide_eq_false k5
    by_cases k6 : s.kind = 6
    · have d6 : decide (s.kind = 6) = true := decide_eq_true k6
      have hf := fin (by rw [hd]; exact nestV_bad (.inr k6) d)
      repeat' first
        | refine Z1 ?_ | refine Z2 ?_ | refine Z5 ?_ | refine Zd ?_ | refine Ze ?_ | refine Zo ?_ | refine ok_seq ?_ | refine ok_reg ?_ | refine Zp ?_ | refine Zq ?_ | refine ok_block ?_ | refine ok_skip ?_ | refine ok_ret ?_
        | refine x_normal_then ?_ | refine x_ret_then ?_ | refine x_ret_block ?_ | refine Zt ?_
      exact ret_vb hf
    have d6 : decide (s.kind = 6) = false := decide_eq_false k6
    by_cases k4 : s.kind = 4
    · have d4 : decide (s.kind = 4) = true := decide_eq_true k4
      have hps := sparts_ok l i i1 hl
      rcases hp : partsS l i with ⟨O, E⟩
      rw [hp] at hps
      unfold partsS at hp
      rw [hd] at hp
      by_cases hO : O < 0
      · have b1 : decide (O < 0) = true := decide_eq_true hO
        have hf := fin (by rw [hd]; exact nestV_none k4 hp (.inl hO) d)
        repeat' first
          | refine Z1 ?_ | refine Z2 ?_ | refine Z5 ?_ | refine Z9 ?_ | refine Zc (hps) ?_ | refine Zd ?_ | refine Ze ?_ | refine Zl ?_ | refine Zo ?_ | refine ok_seq ?_ | refine ok_reg ?_ | refine Zp ?_ | refine Zq ?_ | refine ok_block ?_
          | refine ok_skip ?_ | refine ok_ret ?_ | refine x_normal_then ?_ | refine x_ret_then ?_ | refine x_ret_block ?_ | refine Zt ?_
        exact ret_vb hf
      have b1 : decide (O < 0) = false := decide_eq_false hO
      by_cases hE : E < 0
      · have b2 : decide (E < 0) = true := decide_eq_true hE
        have hf := fin (by rw [hd]; exact nestV_none k4 hp (.inr hE) d)
        repeat' first
          | refine Z1 ?_ | refine Z2 ?_ | refine Z5 ?_ | refine Z7 ?_ | refine Zc (hps) ?_ | refine Zd ?_ | refine Ze ?_ | refine Zh ?_ | refine Zi ?_ | refine Zm ?_ | refine Zo ?_ | refine ok_seq ?_ | refine ok_reg ?_ | refine Zp ?_
          | refine Zq ?_ | refine ok_block ?_ | refine ok_skip ?_ | refine ok_ret ?_ | refine x_normal_then ?_ | refine x_ret_then ?_ | refine x_ret_block ?_ | refine Zt ?_
        exact ret_vb hf
      have b2 : decide (E < 0) = false := decide_eq_false hE
      obtain ⟨y, e, n, f, r2, hr, h5, h6, hO', hE'⟩ := if_cut k4 hp (by omega) (by omega)
      subst hO' hE'
      rw [hr] at hd hp
      obtain ⟨c0, c1, c2, c3⟩ := cut_parts hd
      have hnv := nestV_if k4 h5 h6 hp d
      rw [← hd] at hnv
      have key : ((0 < y.length ∨ 0 < n.length) ∧ 20 < d + 1 → false = nestV l d) ∧ (¬ ((0 < y.length ∨ 0 < n.length) ∧ 20 < d + 1) → (nestV y (d + 1) && nestV n (d + 1) && nestV r2 d) = nestV l d) :=
        ⟨fun h => by rw [← i2, hnv, if_pos h], fun h => by rw [← i2, hnv, if_neg h]⟩
      have hy := ih y.length (by omega) y (d + 1) rfl (by omega) (by omega) (by omega)
      have hn := ih n.length (by omega) n (d + 1) rfl (by omega) (by omega) (by omega)
      have all : ∀ Q : Prop, ((decide (((i : Int) + 1) < ((i + 1 + y.length : Nat) : Int)) = true ∨ (decide (((i : Int) + 1) < ((i + 1 + y.length : Nat) : Int)) = false ∧ decide ((((i + 1 + y.length : Nat) : Int) + 1) < ((i + 1 + y.length + 1 + n.length : Nat) : Int)) = true)) → (0 < y.length ∨ 0 < n.length) → Q) → (decide (((i : Int) + 1) < ((i + 1 + y.length : Nat) : Int)) = false → decide ((((i + 1 + y.length : Nat) : Int) + 1) < ((i + 1 + y.length + 1 + n.length : Nat) : Int)) = false → ¬ (0 < y.length ∨ 0 < n.length) → Q) → Q := by
        intro Q a b
        by_cases h1 : 0 < y.length
        · exact a (.inl (decide_eq_true (by omega))) (.inl h1)
        · by_cases h2 : 0 < n.length
          · exact a (.inr ⟨decide_eq_false (by omega), decide_eq_true (by omega)⟩) (.inr h2)
          · exact b (decide_eq_false (by omega)) (decide_eq_false (by omega)) (by omega)
      have rest : ∀ {Q : Prop}, ¬ ((0 < y.length ∨ 0 < n.length) ∧ 20 < d + 1) → ((!nestV y (d + 1)) = true → false = nestV l d → Q) → ((!nestV y (d + 1)) = false → (!nestV n (d + 1)) = true → false = nestV l d → Q) → ((!nestV y (d + 1)) = false → (!nestV n (d + 1)) = false → nestV r2 d = nestV l d → Q) → Q := by
        intro Q h a b c
        have := key.2 h
        cases h1 : nestV y (d + 1) with
        | false => exact a (by rw [h1]; rfl) (by rw [← this, h1]; rfl)
        | true =>
          cases h2 : nestV n (d + 1) with
          | false => exact b (by rw [h1]; rfl) (by rw [h2]; rfl) (by rw [← this, h1, h2]; rfl)
          | true => exact c (by rw [h1]; rfl) (by rw [h2]; rfl) (by rw [← this, h1, h2]; simp)
      have hbk : nestV (l.drop (i + 1 + y.length + 1 + n.length + 1)) d = nestV r2 d := by rw [c3]
      refine all _ (fun hin hpos => ?_) (fun q1 q2 hpos => ?_)
      · rcases hin with q1 | ⟨q1, q2⟩
        · by_cases h20 : 20 < d + 1
          · have q3 : decide (20 < d + 1) = true := decide_eq_true h20
            have hf := key.1 ⟨hpos, h20⟩
            repeat' first
              | refine Z1 ?_ | refine Z2 ?_ | refine Z5 ?_ | refine Z7 ?_ | refine Z9 ?_ | refine Zc (hps) ?_ | refine Zd ?_ | refine Ze ?_ | refine Zf ?_ | refine Zh ?_ | refine Zi ?_ | refine Zl ?_ | refine Zo ?_ | refine ok_seq ?_
              | refine ok_reg ?_ | refine Zp ?_ | refine Zq ?_ | refine ok_block ?_ | refine ok_skip ?_ | refine ok_ret ?_ | refine x_normal_then ?_ | refine x_ret_then ?_ | refine x_ret_block ?_ | refine Zt ?_
            exact ret_vb hf
          have q3 : decide (20 < d + 1) = false := decide_eq_false h20
          refine rest (fun h => h20 h.2) (fun v1 hf => ?_) (fun v1 v2 hf => ?_) (fun v1 v2 hg => ?_)
          ·
            repeat' first
              | refine Z1 ?_ | refine Z2 ?_ | refine Z5 ?_ | refine Z7 ?_ | refine Z9 ?_ | refine Zc (hps) ?_ | refine Ysl (e := eSm) (l := l) (i + 1) (i + 1 + y.length) y c1 ?_ | refine Zc (hy) ?_ | refine Zd ?_ | refine Ze ?_ | refine Zf ?_
              | refine Zh ?_ | refine Zi ?_ | refine Zl ?_ | refine Zo ?_ | refine ok_seq ?_ | refine ok_reg ?_ | refine Zp ?_ | refine Zq ?_ | refine ok_block ?_ | refine ok_skip ?_ | refine ok_ret ?_ | refine x_normal_then ?_
              | refine x_ret_then ?_ | refine x_ret_block ?_ | refine Zt ?_
            exact ret_vb hf
          ·
            repeat' first
              | refine Z1 ?_ | refine Z2 ?_ | refine Z5 ?_ | refine Z7 ?_ | refine Z9 ?_ | refine Zc (hps) ?_ | refine Ysl (e := eSm) (l := l) (i + 1) (i + 1 + y.length) y c1 ?_
              | refine Ysl (e := eSm) (l := l) (i + 1 + y.length + 1) (i + 1 + y.length + 1 + n.length) n c2 ?_ | refine Zc (hy) ?_ | refine Zc (hn) ?_ | refine Zd ?_ | refine Ze ?_ | refine Zf ?_ | refine Zh ?_ | refine Zi ?_ | refine Zl ?_
              | refine Zm ?_ | refine Zo ?_ | refine ok_seq ?_ | refine ok_reg ?_ | refine Zp ?_ | refine Zq ?_ | refine ok_block ?_ | refine ok_skip ?_ | refine ok_ret ?_ | refine x_normal_then ?_ | refine x_ret_then ?_
              | refine x_ret_block ?_ | refine Zt ?_
            exact ret_vb hf
          ·
            repeat' first
              | refine Z1 ?_ | refine Z2 ?_ | refine Z3 ?_ | refine Z5 ?_ | refine Z7 ?_ | refine Z9 ?_ | refine Zc (hps) ?_ | refine Ysl (e := eSm) (l := l) (i + 1) (i + 1 + y.length) y c1 ?_
              | refine Ysl (e := eSm) (l := l) (i + 1 + y.length + 1) (i + 1 + y.length + 1 + n.length) n c2 ?_ | refine Zc (hy) ?_ | refine Zc (hn) ?_ | refine Zd ?_ | refine Ze ?_ | refine Zf ?_ | refine Zh ?_ | refine Zi ?_ | refine Zl ?_
              | refine Zm ?_ | refine Zo ?_ | refine ok_seq ?_ | refine ok_reg ?_ | refine Zp ?_ | refine Zq ?_ | refine ok_block ?_ | refine ok_skip ?_ | refine x_normal_then ?_ | refine x_normal_block ?_
            exact ⟨i + 1 + y.length + 1 + n.length + 1, ⟨by omega, hbk.trans hg⟩, by (try simp only); omega, low_mk (Nat.zero_le _) ⟨⟨rfl, rfl⟩, ⟨rfl, rfl⟩, ⟨rfl, rfl⟩, ⟨rfl, rfl⟩, trivial⟩ trivial⟩
        · by_cases h20 : 20 < d + 1
          · have q3 : decide (20 < d + 1) = true := decide_eq_true h20
            have hf := key.1 ⟨hpos, h20⟩
            repeat' first
              | refine Z1 ?_ | refine Z2 ?_ | refine Z5 ?_ | refine Z7 ?_ | refine Zc (hps) ?_ | refine Zd ?_ | refine Ze ?_ | refine Zf ?_ | refine Zh ?_ | refine Zi ?_ | refine Zl ?_ | refine Zm ?_ | refine Zo ?_ | refine ok_seq ?_
              | refine ok_reg ?_ | refine Zp ?_ | refine Zq ?_ | refine ok_block ?_ | refine ok_skip ?_ | refine ok_ret ?_ | refine x_normal_then ?_ | refine x_ret_then ?_ | refine x_ret_block ?_ | refine Zt ?_
            exact ret_vb hf
          have q3 : decide (20 < d + 1) = false := decide_eq_false h20
          refine rest (fun h => h20 h.2) (fun v1 hf => ?_) (fun v1 v2 hf => ?_) (fun v1 v2 hg => ?_)
          ·
            repeat' first
              | refine Z1 ?_ | refine Z2 ?_ | refine Z5 ?_ | refine Z7 ?_ | refine Z9 ?_ | refine Zc (hps) ?_ | refine Ysl (e := eSm) (l := l) (i + 1) (i + 1 + y.length) y c1 ?_ | refine Zc (hy) ?_ | refine Zd ?_ | refine Ze ?_ | refine Zf ?_
              | refine Zh ?_ | refine Zi ?_ | refine Zl ?_ | refine Zm ?_ | refine Zo ?_ | refine ok_seq ?_ | refine ok_reg ?_ | refine Zp ?_ | refine Zq ?_ | refine ok_block ?_ | refine ok_skip ?_ | refine ok_ret ?_ | refine x_normal_then ?_
              | refine x_ret_then ?_ | refine x_ret_block ?_ | refine Zt ?_
            exact ret_vb hf
          ·
            repeat' first
              | refine Z1 ?_ | refine Z2 ?_ | refine Z5 ?_ | refine Z7 ?_ | refine Zc (hps) ?_ | refine Ysl (e := eSm) (l := l) (i + 1) (i + 1 + y.length) y c1 ?_
              | refine Ysl (e := eSm) (l := l) (i + 1 + y.length + 1) (i + 1 + y.length + 1 + n.length) n c2 ?_ | refine Zc (hy) ?_ | refine Zc (hn) ?_ | refine Zd ?_ | refine Ze ?_ | refine Zf ?_ | refine Zh ?_ | refine Zi ?_ | refine Zl ?_
              | refine Zm ?_ | refine Zo ?_ | refine ok_seq ?_ | refine ok_reg ?_ | refine Zp ?_ | refine Zq ?_ | refine ok_block ?_ | refine ok_skip ?_ | refine ok_ret ?_ | refine x_normal_then ?_ | refine x_ret_then ?_
              | refine x_ret_block ?_ | refine Zt ?_
            exact ret_vb hf
          ·
            repeat' first
              | refine Z1 ?_ | refine Z2 ?_ | refine Z3 ?_ | refine Z5 ?_ | refine Z7 ?_ | refine Zc (hps) ?_ | refine Ysl (e := eSm) (l := l) (i + 1) (i + 1 + y.length) y c1 ?_
              | refine Ysl (e := eSm) (l := l) (i + 1 + y.length + 1) (i + 1 + y.length + 1 + n.length) n c2 ?_ | refine Zc (hy) ?_ | refine Zc (hn) ?_ | refine Zd ?_ | refine Ze ?_ | refine Zf ?_ | refine Zh ?_ | refine Zi ?_ | refine Zl ?_
              | refine Zm ?_ | refine Zo ?_ | refine ok_seq ?_ | refine ok_reg ?_ | refine Zp ?_ | refine Zq ?_ | refine ok_block ?_ | refine ok_skip ?_ | refine x_normal_then ?_ | refine x_normal_block ?_
            exact ⟨i + 1 + y.length + 1 + n.length + 1, ⟨by omega, hbk.trans hg⟩, by (try simp only); omega, low_mk (Nat.zero_le _) ⟨⟨rfl, rfl⟩, ⟨rfl, rfl⟩, ⟨rfl, rfl⟩, ⟨rfl, rfl⟩, trivial⟩ trivial⟩
      · refine rest (fun h => hpos h.1) (fun v1 hf => ?_) (fun v1 v2 hf => ?_) (fun v1 v2 hg => ?_)
        ·
          repeat' first
            | refine Z1 ?_ | refine Z2 ?_ | refine Z5 ?_ | refine Z7 ?_ | refine Z8 ?_ | refine Z9 ?_ | refine Zc (hps) ?_ | refine Ysl (e := eSm) (l := l) (i + 1) (i + 1 + y.length) y c1 ?_ | refine Zc (hy) ?_ | refine Zd ?_ | refine Ze ?_
            | refine Zf ?_ | refine Zh ?_ | refine Zi ?_ | refine Zl ?_ | refine Zm ?_ | refine Zo ?_ | refine ok_seq ?_ | refine ok_reg ?_ | refine Zp ?_ | refine Zq ?_ | refine ok_block ?_ | refine ok_skip ?_ | refine ok_ret ?_
            | refine x_normal_then ?_ | refine x_ret_then ?_ | refine x_ret_block ?_ | refine Zt ?_
          exact ret_vb hf
        ·
          repeat' first
            | refine Z1 ?_ | refine Z2 ?_ | refine Z5 ?_ | refine Z7 ?_ | refine Z8 ?_ | refine Zc (hps) ?_ | refine Ysl (e := eSm) (l := l) (i + 1) (i + 1 + y.length) y c1 ?_
            | refine Ysl (e := eSm) (l := l) (i + 1 + y.length + 1) (i + 1 + y.length + 1 + n.length) n c2 ?_ | refine Zc (hy) ?_ | refine Zc (hn) ?_ | refine Zd ?_ | refine Ze ?_ | refine Zf ?_ | refine Zh ?_ | refine Zi ?_ | refine Zm ?_
            | refine Zo ?_ | refine ok_seq ?_ | refine ok_reg ?_ | refine Zp ?_ | refine Zq ?_ | refine ok_block ?_ | refine ok_skip ?_ | refine ok_ret ?_ | refine x_normal_then ?_ | refine x_ret_then ?_ | refine x_ret_block ?_ | refine Zt ?_
          exact ret_vb hf
        ·
          repeat' first
            | refine Z1 ?_ | refine Z2 ?_ | refine Z3 ?_ | refine Z5 ?_ | refine Z7 ?_ | refine Z8 ?_ | refine Zc (hps) ?_ | refine Ysl (e := eSm) (l := l) (i + 1) (i + 1 + y.length) y c1 ?_
            | refine Ysl (e := eSm) (l := l) (i + 1 + y.length + 1) (i + 1 + y.length + 1 + n.length) n c2 ?_ | refine Zc (hy) ?_ | refine Zc (hn) ?_ | refine Zd ?_ | refine Ze ?_ | refine Zf ?_ | refine Zh ?_ | refine Zi ?_ | refine Zm ?_
            | refine Zo ?_ | refine ok_seq ?_ | refine ok_reg ?_ | refine Zp ?_ | refine Zq ?_ | refine ok_block ?_ | refine ok_skip ?_ | refine x_normal_then ?_ | refine x_normal_block ?_
          exact ⟨i + 1 + y.length + 1 + n.length + 1, ⟨by omega, hbk.trans hg⟩, by (try simp only); omega, low_mk (Nat.zero_le _) ⟨⟨rfl, rfl⟩, ⟨rfl, rfl⟩, ⟨rfl, rfl⟩, ⟨rfl, rfl⟩, trivial⟩ trivial⟩
    have d4 : decide (s.kind = 4) = false := decide_eq_false k4
    rw [hd, nestV_leaf k4 k5 k6] at i2
    repeat' first
      | refine Z1 ?_ | refine Z2 ?_ | refine Z3 ?_ | refine Z5 ?_ | refine Zd ?_ | refine Ze ?_ | refine Zf ?_ | refine Zo ?_ | refine ok_seq ?_ | refine ok_reg ?_ | refine Zp ?_ | refine Zq ?_ | refine ok_block ?_ | refine ok_skip ?_
      | refine x_normal_then ?_ | refine x_normal_block ?_
    exact ⟨i + 1, ⟨hlt, i2⟩, by (try simp only); omega, low_mk (Nat.zero_le _) ⟨⟨rfl, rfl⟩, ⟨rfl, rfl⟩, ⟨rfl, rfl⟩, ⟨rfl, rfl⟩, trivial⟩ trivial⟩
end Go.Pm
