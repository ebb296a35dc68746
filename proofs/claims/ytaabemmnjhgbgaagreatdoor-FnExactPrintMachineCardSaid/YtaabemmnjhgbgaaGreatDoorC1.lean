/- Part of the proof. -/
import Derived.Test.YtaabemmnjhgbgaaGreatDoorB2
set_option linter.unusedVariables false
set_option linter.unusedSimpArgs false
namespace Go.Pm
attribute [local irreducible] AR Ok inBlock andThen endQ aoper
set_option maxHeartbeats 1000000
open Go.Proofs
theorem sdigit_ok (c : UInt8) : PFun X 88 [.d (.s (.int .u8 c.toNat))] (vb (digitI c)) := by
  refine pfun_of Tryz.func88 rfl (by decide) Tryz.ntmps88 Tryz.results88 (by simp) rfl rfl ?_
  repeat' first
    | refine Z1 ?_ | refine Z2 ?_ | refine Z5 ?_ | refine Z7 ?_ | refine Z8 ?_ | refine Za (fun hc => ?_) (fun hc => ?_) | refine Zh ?_ | refine Zi ?_ | refine Zl ?_ | refine Zm ?_ | refine Zo ?_ | refine ok_ret ?_ | refine Zt ?_
  all_goals simp [digitI, *]
theorem sletter_ok (c : UInt8) : PFun X 86 [.d (.s (.int .u8 c.toNat))] (vb (letterI c)) := by
  refine pfun_of Tryz.func86 rfl (by decide) Tryz.ntmps86 Tryz.results86 (by simp) rfl rfl ?_
  repeat' first
    | refine Z1 ?_ | refine Z2 ?_ | refine Z5 ?_ | refine Z6 ?_ | refine Z7 ?_ | refine Z8 ?_ | refine Z9 ?_ | refine Za (fun hc => ?_) (fun hc => ?_) | refine Zb (fun hc => ?_) (fun hc => ?_) | refine Zh ?_ | refine Zi ?_
    | refine Zl ?_ | refine Zm ?_ | refine Zo ?_ | refine ok_ret ?_ | refine Zt ?_
  all_goals simp [letterI, *]
def inS (ks : List ByteArray) (s : ByteArray) : Bool := ks.any fun k => decide (k = s)
theorem sin_ok (ks : List ByteArray) (s : ByteArray) (hl : ks.length ≤ 1048576) : PFun X 70 [.d (.im (ks.map eStr)), vs s] (vb (inS ks s)) := by
  refine pfun_of Tryz.func70 rfl (by decide) Tryz.ntmps70 Tryz.results70 (by simp) rfl rfl ?_
  repeat' first
    | refine Z1 ?_ | refine Z2 ?_ | refine Z5 ?_ | refine Zd ?_ | refine Zo ?_ | refine ok_seq ?_ | refine ok_block ?_
  refine ok_for (ι := Nat) (fun x => envL [(1, vs s), (4, vb false), (7, .d (.im (ks.map eStr))), (8, vi ks.length), (9, vi x)]) (fun x => stL []) (fun x => x ≤ ks.length ∧ inS (ks.drop x) s = inS ks s) (fun x => ks.length - x) 0 (⟨Nat.zero_le _, rfl⟩) (weak_mk rfl ⟨.refl _, .refl _, .refl _, .refl _, .refl _, trivial⟩ trivial) (fun _ => Nat.le_refl 0) ?_
  rintro k ⟨i1, i2⟩
  rcases hx : ks[k]? with _ | x
  · have hle := none_le hx
    have ek : decide ((k : Int) < (ks.length : Int)) = false := decide_eq_false (by omega)
    rw [drop_none hx] at i2
    repeat' first
      | refine Z1 ?_ | refine Z2 ?_ | refine Zo ?_ | refine ok_seq ?_ | refine Zq ?_ | refine ok_exit ?_ | refine ok_ret ?_ | refine x_normal_then ?_ | refine x_exit_here ?_ | refine Zv ?_ | refine Zt ?_
    exact ret_vb i2
  · obtain ⟨hd, hlt⟩ := drop_some hx
    have ek : decide ((k : Int) < (ks.length : Int)) = true := decide_eq_true (by omega)
    rw [hd] at i2
    simp only [inS, List.any_cons] at i2
    cases he : decide (x = s) with
    | true =>
      repeat' first
        | refine Z1 ?_ | refine Z2 ?_ | refine Z5 ?_ | refine Ze ?_ | refine Zo ?_ | refine ok_seq ?_ | refine Zp ?_ | refine ok_block ?_ | refine ok_skip ?_ | refine ok_ret ?_ | refine x_normal_then ?_ | refine x_ret_then ?_
        | refine x_ret_block ?_ | refine Zt ?_
      exact ret_vb (by rw [he] at i2; exact i2)
    | false =>
      repeat' first
        | refine Z1 ?_ | refine Z2 ?_ | refine Z5 ?_ | refine Ze ?_ | refine Zf ?_ | refine Zo ?_ | refine ok_seq ?_ | refine ok_reg ?_ | refine Zp ?_ | refine Zq ?_ | refine ok_block ?_ | refine ok_skip ?_
        | refine x_normal_then ?_ | refine x_normal_block ?_
      rw [he, Bool.false_or] at i2
      exact ⟨k + 1, ⟨hlt, i2⟩, by (try simp only); omega, low_mk (Nat.zero_le _) ⟨⟨rfl, rfl⟩, ⟨rfl, rfl⟩, ⟨rfl, rfl⟩, ⟨rfl, rfl⟩, ⟨rfl, rfl⟩, trivial⟩ trivial⟩
def kwSpecBytes : List (List UInt8) := [[110, 111, 100, 101], [114, 101, 116, 117, 114, 110, 115], [118, 97, 114], [108, 101, 116], [116, 101, 108], [105, 110, 116], [98, 111, 111, 108], [119, 104, 101, 110], [119, 104, 101, 110, 111, 116], [105, 102], [116, 104, 101, 110], [101, 108, 115, 101], [102, 98, 121], [109, 101, 114, 103, 101], [116, 114, 117, 101], [102, 97, 108, 115, 101], [97, 110, 100], [111, 114], [120, 111, 114], [110, 111, 116], [109, 111, 100]]
def kwSpec : List ByteArray := kwSpecBytes.map fun l => ⟨l.toArray⟩
theorem skw_ok : PFun X 87 [] (.d (.im (kwSpec.map eStr))) := by
  refine pfun_of Tryz.func87 rfl (by decide) Tryz.ntmps87 Tryz.results87 (by simp) rfl rfl ?_
  repeat' first
    | refine Z1 ?_ | refine Z2 ?_ | refine Z4 ?_ | refine Zo ?_ | refine ok_ret ?_ | refine Zt ?_
  rfl
def plainS (s : ByteArray) : Bool :=
  match bs s with
  | [] => false
  | c :: r => if 40 < (s.size : Int) then false else letterI c && !inS kwSpec s && (c :: r).all tailI
def freshS (s : ByteArray) : Bool :=
  match bs s with
  | c :: d :: r => if 10 < (s.size : Int) ∨ (c.toNat : Int) ≠ 36 ∨ (d.toNat : Int) = 48 then false else (d :: r).all digitI
  | _ => false
def nameS (s : ByteArray) : Bool := plainS s || freshS s
theorem splain_ok (s : ByteArray) : PFun X 66 [vs s] (vb (plainS s)) := by
  have hsz := bs_length s
  refine pfun_of Tryz.func66 rfl (by decide) Tryz.ntmps66 Tryz.results66 (by simp) rfl rfl ?_
  rcases hb : bs s with _ | ⟨c, r⟩
  · rw [hb] at hsz
    have e : decide ((s.size : Int) < 1) = true := decide_eq_true (by simp at hsz; omega)
    repeat' first
      | refine Z1 ?_ | refine Z2 ?_ | refine Z5 ?_ | refine Z9 ?_ | refine Zl ?_ | refine Zo ?_ | refine ok_seq ?_ | refine Zp ?_ | refine ok_ret ?_ | refine x_ret_then ?_ | refine Zt ?_
    exact ret_vb (by simp [plainS, hb])
  · have h0 : (bs s)[0]? = some c := by rw [hb]; rfl
    rw [hb] at hsz
    simp only [List.length_cons] at hsz
    have e : decide ((s.size : Int) < 1) = false := decide_eq_false (by omega)
    by_cases hbig : 40 < (s.size : Int)
    · have e2 : decide (40 < (s.size : Int)) = true := decide_eq_true hbig
      repeat' first
        | refine Z1 ?_ | refine Z2 ?_ | refine Z5 ?_ | refine Z7 ?_ | refine Z9 ?_ | refine Zh ?_ | refine Zi ?_ | refine Zl ?_ | refine Zm ?_ | refine Zo ?_ | refine ok_seq ?_ | refine Zp ?_ | refine ok_ret ?_
        | refine x_ret_then ?_ | refine Zt ?_
      exact ret_vb (by simp [plainS, hb, hbig])
    have e2 : decide (40 < (s.size : Int)) = false := decide_eq_false hbig
    cases hl : letterI c with
    | false =>
      have el : (!letterI c) = true := by rw [hl]; rfl
      repeat' first
        | refine Z1 ?_ | refine Z2 ?_ | refine Z5 ?_ | refine Z7 ?_ | refine Z9 ?_ | refine op_b rfl rfl h0 rfl rfl rfl ?_ | refine Zc (sletter_ok _) ?_ | refine Zh ?_ | refine Zi ?_ | refine Zl ?_ | refine Zm ?_ | refine Zo ?_
        | refine ok_seq ?_ | refine Zp ?_ | refine ok_ret ?_ | refine x_ret_then ?_ | refine Zt ?_
      exact ret_vb (by simp [plainS, hb, hbig, hl])
    | true =>
      have el : (!letterI c) = false := by rw [hl]; rfl
      cases hw : inS kwSpec s with
      | true =>
        repeat' first
          | refine Z1 ?_ | refine Z2 ?_ | refine Z5 ?_ | refine Z7 ?_ | refine op_b rfl rfl h0 rfl rfl rfl ?_ | refine Zc (sletter_ok _) ?_ | refine Zc (skw_ok) ?_ | refine Zc (sin_ok kwSpec s (by decide)) ?_ | refine Zh ?_
          | refine Zi ?_ | refine Zm ?_ | refine Zo ?_ | refine ok_seq ?_ | refine Zp ?_ | refine ok_ret ?_ | refine x_ret_then ?_ | refine Zt ?_
        exact ret_vb (by simp [plainS, hb, hbig, hl, hw])
      | false =>
        have hn : plainS s = (c :: r).all tailI := by simp only [plainS, hb, hbig, hl, hw, if_false]; rfl
        repeat' first
          | refine Z1 ?_ | refine Z2 ?_ | refine Z5 ?_ | refine Z7 ?_ | refine op_b rfl rfl h0 rfl rfl rfl ?_ | refine Zc (sletter_ok _) ?_ | refine Zc (skw_ok) ?_ | refine Zc (sin_ok kwSpec s (by decide)) ?_ | refine Zh ?_
          | refine Zi ?_ | refine Zm ?_ | refine Zo ?_ | refine ok_seq ?_ | refine Zq ?_ | refine ok_block ?_ | refine ok_skip ?_ | refine x_normal_then ?_
        refine ok_for (ι := Nat) (fun x => envL [(0, vs s), (2, vb false), (3, vi x)]) (fun x => stL []) (fun x => x ≤ s.size ∧ ((bs s).drop x).all tailI = plainS s) (fun x => s.size - x) 0 (⟨by omega, by rw [hn, hb]; rfl⟩) (weak_mk rfl ⟨.refl _, .refl _, .refl _, trivial⟩ trivial) (fun _ => Nat.le_refl 0) ?_
        rintro k ⟨i2, i3⟩
        rcases hx : (bs s)[k]? with _ | x
        · have hle := none_le hx
          rw [bs_length] at hle
          have ek : decide ((k : Int) < (s.size : Int)) = false := decide_eq_false (by omega)
          rw [drop_none hx] at i3
          repeat' first
            | refine Z1 ?_ | refine Z2 ?_ | refine Zo ?_ | refine ok_seq ?_ | refine Zq ?_ | refine ok_exit ?_ | refine ok_ret ?_ | refine x_normal_then ?_ | refine x_exit_here ?_ | refine Zv ?_ | refine Zt ?_
          exact ret_vb i3
        · obtain ⟨hd, hlt⟩ := drop_some hx
          rw [bs_length] at hlt
          have ek : decide ((k : Int) < (s.size : Int)) = true := decide_eq_true (by omega)
          rw [hd, List.all_cons] at i3
          cases htx : tailI x with
          | false =>
            have htx' := htx
            simp only [tailI, Bool.or_eq_false_iff, decide_eq_false_iff_not] at htx'
            have ex : (!letterI x) = true := by rw [htx'.1.1]; rfl
            have ex2 : (!digitI x) = true := by rw [htx'.1.2]; rfl
            have ex3 : decide ((x.toNat : Int) ≠ 95) = true := decide_eq_true htx'.2
            repeat' first
              | refine Z1 ?_ | refine Z2 ?_ | refine Z5 ?_ | refine Z7 ?_ | refine op_b rfl rfl hx rfl rfl rfl ?_ | refine Zc (sdigit_ok _) ?_ | refine Zc (sletter_ok _) ?_ | refine Zh ?_ | refine Zi ?_ | refine Zl ?_
              | refine Zo ?_ | refine ok_seq ?_ | refine Zp ?_ | refine ok_block ?_ | refine ok_skip ?_ | refine ok_ret ?_ | refine x_normal_then ?_ | refine x_ret_then ?_ | refine x_ret_block ?_ | refine Zt ?_
            exact ret_vb (by rw [← i3, htx]; rfl)
          | true =>
            rw [htx, Bool.true_and] at i3
            repeat' first
              | refine Z1 ?_ | refine Z2 ?_ | refine Z5 ?_ | refine Z7 ?_ | refine Z8 ?_ | refine Za (fun hc => ?_) (fun hc => ?_) | refine op_b rfl rfl hx rfl rfl rfl ?_ | refine Zc (sdigit_ok _) ?_ | refine Zc (sletter_ok _) ?_
              | refine Zf ?_ | refine Zh ?_ | refine Zi ?_ | refine Zl ?_ | refine Zm ?_ | refine Zo ?_ | refine ok_seq ?_ | refine ok_reg ?_ | refine Zp ?_ | refine Zq ?_ | refine Zr (fun hc => ?_) (fun hc => ?_) | refine ok_block ?_
              | refine ok_skip ?_ | refine ok_ret ?_ | refine x_normal_then ?_ | refine x_ret_then ?_ | refine x_ret_block ?_ | refine x_normal_block ?_ | refine Zt ?_
            all_goals first
              | (exact ⟨k + 1, ⟨by omega, i3⟩, by (try simp only); omega, low_mk (Nat.zero_le _) ⟨⟨rfl, rfl⟩, ⟨rfl, rfl⟩, ⟨rfl, rfl⟩, trivial⟩ trivial⟩)
              | (exfalso; simp_all [tailI])
theorem sfresh_ok (s : ByteArray) : PFun X 67 [vs s] (vb (freshS s)) := by
  have hsz := bs_length s
  refine pfun_of Tryz.func67 rfl (by decide) Tryz.ntmps67 Tryz.results67 (by simp) rfl rfl ?_
  by_cases h2 : (s.size : Int) < 2
  · have e : decide ((s.size : Int) < 2) = true := decide_eq_true h2
    repeat' first
      | refine Z1 ?_ | refine Z2 ?_ | refine Z5 ?_ | refine Z9 ?_ | refine Zl ?_ | refine Zo ?_ | refine ok_seq ?_ | refine Zp ?_ | refine ok_ret ?_ | refine x_ret_then ?_ | refine Zt ?_
    refine ret_vb ?_
    unfold freshS
    split
    · rename_i hb; rw [hb] at hsz; simp only [List.length_cons] at hsz; omega
    · rfl
  · rcases hb : bs s with _ | ⟨c, _ | ⟨d, r⟩⟩
    · rw [hb] at hsz; simp only [List.length_nil] at hsz; omega
    · rw [hb] at hsz; simp only [List.length_cons, List.length_nil] at hsz; omega
    have h0 : (bs s)[0]? = some c := by rw [hb]; rfl
    have h1 : (bs s)[1]? = some d := by rw [hb]; rfl
    rw [hb] at hsz
    simp only [List.length_cons] at hsz
    have e : decide ((s.size : Int) < 2) = false := decide_eq_false h2
    by_cases hbad : 10 < (s.size : Int) ∨ (c.toNat : Int) ≠ 36 ∨ (d.toNat : Int) = 48
    · have hn : freshS s = false := by simp only [freshS, hb, hbad, if_true]
      repeat' first
        | refine Z1 ?_ | refine Z2 ?_ | refine Z5 ?_ | refine Z7 ?_ | refine Z9 ?_ | refine Zb (fun hc => ?_) (fun hc => ?_) | refine op_b rfl rfl h0 rfl rfl rfl ?_ | refine op_b rfl rfl h1 rfl rfl rfl ?_ | refine Zh ?_
        | refine Zi ?_ | refine Zl ?_ | refine Zm ?_ | refine Zo ?_ | refine ok_seq ?_ | refine Zp ?_ | refine Zr (fun hc => ?_) (fun hc => ?_) | refine ok_block ?_ | refine ok_skip ?_ | refine ok_ret ?_ | refine x_normal_then ?_
        | refine x_ret_then ?_ | refine Zt ?_
      all_goals simp only [decide_eq_true_eq, decide_eq_false_iff_not, Bool.not_eq_true, Bool.not_eq_false, Bool.not_eq_eq_eq_not, Bool.not_true, Bool.not_false] at *
      all_goals first
        | exact ret_vb hn.symm
        | (exfalso; omega)
    · have e2 : decide (10 < (s.size : Int)) = false := decide_eq_false (by omega)
      have e3 : decide ((c.toNat : Int) ≠ 36) = false := decide_eq_false (by omega)
      have e4 : decide ((d.toNat : Int) = 48) = false := decide_eq_false (by omega)
      have hn : freshS s = (d :: r).all digitI := by simp only [freshS, hb, hbad, if_false]
      repeat' first
        | refine Z1 ?_ | refine Z2 ?_ | refine Z5 ?_ | refine Z7 ?_ | refine op_b rfl rfl h0 rfl rfl rfl ?_ | refine op_b rfl rfl h1 rfl rfl rfl ?_ | refine Zh ?_ | refine Zi ?_ | refine Zm ?_ | refine Zo ?_ | refine ok_seq ?_
        | refine Zq ?_ | refine ok_block ?_ | refine ok_skip ?_ | refine x_normal_then ?_
      refine ok_for (ι := Nat) (fun x => envL [(0, vs s), (2, vb false), (3, vi x)]) (fun x => stL []) (fun x => 1 ≤ x ∧ x ≤ s.size ∧ ((bs s).drop x).all digitI = freshS s) (fun x => s.size - x) 1 (⟨by omega, by omega, by rw [hn, hb]; simp⟩) (weak_mk rfl ⟨.refl _, .refl _, .refl _, trivial⟩ trivial) (fun _ => Nat.le_refl 0) ?_
      rintro k ⟨i1, i2, i3⟩
      rcases hx : (bs s)[k]? with _ | x
      · have hle := none_le hx
        rw [bs_length] at hle
        have ek : decide ((k : Int) < (s.size : Int)) = false := decide_eq_false (by omega)
        rw [drop_none hx] at i3
        repeat' first
          | refine Z1 ?_ | refine Z2 ?_ | refine Zo ?_ | refine ok_seq ?_ | refine Zq ?_ | refine ok_exit ?_ | refine ok_ret ?_ | refine x_normal_then ?_ | refine x_exit_here ?_ | refine Zv ?_ | refine Zt ?_
        exact ret_vb i3
      · obtain ⟨hd, hlt⟩ := drop_some hx
        rw [bs_length] at hlt
        have ek : decide ((k : Int) < (s.size : Int)) = true := decide_eq_true (by omega)
        rw [hd, List.all_cons] at i3
        cases hdx : digitI x with
        | false =>
          have ex : (!digitI x) = true := by rw [hdx]; rfl
          repeat' first
            | refine Z1 ?_ | refine Z2 ?_ | refine Z5 ?_ | refine op_b rfl rfl hx rfl rfl rfl ?_ | refine Zc (sdigit_ok _) ?_ | refine Zo ?_ | refine ok_seq ?_ | refine Zp ?_ | refine ok_block ?_ | refine ok_skip ?_
            | refine ok_ret ?_ | refine x_normal_then ?_ | refine x_ret_then ?_ | refine x_ret_block ?_ | refine Zt ?_
          exact ret_vb (by rw [← i3, hdx]; rfl)
        | true =>
          have ex : (!digitI x) = false := by rw [hdx]; rfl
          repeat' first
            | refine Z1 ?_ | refine Z2 ?_ | refine Z5 ?_ | refine op_b rfl rfl hx rfl rfl rfl ?_ | refine Zc (sdigit_ok _) ?_ | refine Zf ?_ | refine Zo ?_ | refine ok_seq ?_ | refine ok_reg ?_ | refine Zp ?_ | refine Zq ?_
            | refine ok_block ?_ | refine ok_skip ?_ | refine x_normal_then ?_ | refine x_normal_block ?_
          rw [hdx, Bool.true_and] at i3
          exact ⟨k + 1, ⟨by omega, by omega, i3⟩, by (try simp only); omega, low_mk (Nat.zero_le _) ⟨⟨rfl, rfl⟩, ⟨rfl, rfl⟩, ⟨rfl, rfl⟩, trivial⟩ trivial⟩
theorem sname_ok (s : ByteArray) : PFun X 36 [vs s] (vb (nameS s)) := by
  refine pfun_of Tryz.func36 rfl (by decide) Tryz.ntmps36 Tryz.results36 (by simp) rfl rfl ?_
  cases hp : plainS s with
  | true =>
    repeat' first
      | refine Z1 ?_ | refine Z2 ?_ | refine Z5 ?_ | refine Z9 ?_ | refine Zc (splain_ok s) ?_ | refine Zl ?_ | refine Zo ?_ | refine ok_ret ?_ | refine Zt ?_
    exact ret_vb (by rw [nameS, hp]; rfl)
  | false =>
    repeat' first
      | refine Z1 ?_ | refine Z2 ?_ | refine Z5 ?_ | refine Z7 ?_ | refine Zc (splain_ok s) ?_ | refine Zc (sfresh_ok s) ?_ | refine Zi ?_ | refine Zm ?_ | refine Zo ?_ | refine ok_ret ?_ | refine Zt ?_
    exact ret_vb (by rw [nameS, hp]; rfl)
end Go.Pm
set_option linter.unusedVariables false
set_option linter.unusedSimpArgs false
namespace Go.Pm
attribute [local irreducible] AR Ok inBlock andThen endQ aoper
set_option maxHeartbeats 1000000
open Go.Proofs
def sarityI (op : Int) : Int := if (1 ≤ op ∧ op ≤ 3) ∨ op = 25 then 0 else if op = 4 ∨ op = 5 ∨ op = 21 ∨ op = 22 ∨ op = 23 then 1 else if (6 ≤ op ∧ op ≤ 19) ∨ op = 24 then 2 else if op = 20 then 3 else -1
theorem sarity_ok (op : Int) : PFun X 110 [vi op] (vi (sarityI op)) := by
  refine pfun_of Tryz.func110 rfl (by decide) Tryz.ntmps110 Tryz.results110 (by simp) rfl rfl ?_
  repeat' first
    | refine Z1 ?_ | refine Z2 ?_ | refine Z5 ?_ | refine Z7 ?_ | refine Z8 ?_ | refine Za (fun hc => ?_) (fun hc => ?_) | refine Zh ?_ | refine Zi ?_ | refine Zl ?_ | refine Zm ?_ | refine Zo ?_ | refine ok_seq ?_
    | refine ok_reg ?_ | refine Zp ?_ | refine Zq ?_ | refine Zr (fun hc => ?_) (fun hc => ?_) | refine ok_block ?_ | refine ok_skip ?_ | refine ok_ret ?_ | refine x_normal_then ?_ | refine x_ret_then ?_ | refine x_ret_block ?_
    | refine x_normal_block ?_ | refine Zt ?_
  all_goals simp only [decide_eq_true_eq, decide_eq_false_iff_not, Bool.not_eq_true, Bool.not_eq_false, Bool.not_eq_eq_eq_not, Bool.not_true, Bool.not_false] at *
  all_goals (refine ret_vi ?_; unfold sarityI; grind)
theorem sarityI_range (n : Int) : -1 ≤ sarityI n ∧ sarityI n ≤ 3 := by unfold sarityI; grind
def beginS (l : List Itm) : Nat → Int → Int
  | 0, need => if need ≤ 0 then 0 else -1
  | a + 1, need => if need ≤ 0 then ((a + 1 : Nat) : Int) else match l[a]? with
    | none => -1
    | some x => if sarityI x.op < 0 then -1 else beginS l a (need + sarityI x.op - 1)
theorem sbegin_ok (l : List Itm) (e : Nat) (he : e ≤ l.length) (hl : l.length ≤ 1048576) : PFun X 101 [.d (.im (l.map eItm)), vi e] (vi (beginS l e 1)) := by
  refine pfun_of Tryz.func101 rfl (by decide) Tryz.ntmps101 Tryz.results101 (by simp) rfl rfl ?_
  repeat' first
    | refine Z1 ?_ | refine Z2 ?_ | refine Zo ?_ | refine ok_seq ?_ | refine ok_block ?_
  refine ok_for (ι := Nat × Int) (fun x => envL [(0, .d (.im (l.map eItm))), (4, vi 0), (5, vi x.1), (6, vi x.2)]) (fun x => stL []) (fun x => x.1 ≤ l.length ∧ 0 ≤ x.2 ∧ x.2 ≤ 1 + 3 * (l.length - x.1) ∧ beginS l x.1 x.2 = beginS l e 1) (fun x => x.1) (e, 1) (⟨he, by simp only; omega, by simp only; omega, rfl⟩) (weak_mk rfl ⟨.refl _, .refl _, .refl _, .refl _, trivial⟩ trivial) (fun _ => Nat.le_refl 0) ?_
  rintro ⟨a, need⟩ ⟨i1, i2, i3, i4⟩
  simp only at i1 i2 i3 i4
  by_cases hn : 0 < need
  · have en : decide (0 < need) = true := decide_eq_true hn
    cases a with
    | zero =>
      have e1 : decide (((0 : Nat) : Int) - 1 < 0) = true := by decide
      repeat' first
        | refine Z1 ?_ | refine Z2 ?_ | refine Z5 ?_ | refine Z9 ?_ | refine Zg ?_ | refine Zo ?_ | refine ok_seq ?_ | refine Zp ?_ | refine ok_block ?_ | refine ok_skip ?_ | refine ok_ret ?_ | refine x_normal_then ?_
        | refine x_ret_then ?_ | refine x_ret_block ?_ | refine Zt ?_
      exact ret_vi (by rw [← i4]; simp only [beginS]; rw [if_neg (by omega)])
    | succ a =>
      have e1 : decide ((a : Int) < 0) = false := decide_eq_false (by omega)
      have hlt : a < l.length := by omega
      obtain ⟨x, hx⟩ : ∃ x, l[a]? = some x := ⟨l[a], by simp [hlt]⟩
      have hr := sarityI_range x.op
      simp only [beginS] at i4
      rw [if_neg (by omega), hx] at i4
      simp only at i4
      by_cases ha : sarityI x.op < 0
      · have ea : decide (sarityI x.op < 0) = true := decide_eq_true ha
        repeat' first
          | refine Z1 ?_ | refine Z2 ?_ | refine Z5 ?_ | refine Z7 ?_ | refine op_subr (r := (a : Int)) rfl rfl (by omega) (by omega) ?_ | refine Zc (sarity_ok _) ?_ | refine Ze ?_ | refine Zh ?_ | refine Zi ?_ | refine Zo ?_
          | refine ok_seq ?_ | refine Zp ?_ | refine ok_block ?_ | refine ok_skip ?_ | refine ok_ret ?_ | refine x_normal_then ?_ | refine x_ret_then ?_ | refine x_ret_block ?_ | refine Zt ?_
        exact ret_vi (by rw [← i4, if_pos ha])
      · have ea : decide (sarityI x.op < 0) = false := decide_eq_false ha
        repeat' first
          | refine Z1 ?_ | refine Z2 ?_ | refine Z3 ?_ | refine Z5 ?_ | refine Z7 ?_ | refine op_subr (r := (a : Int)) rfl rfl (by omega) (by omega) ?_ | refine Zc (sarity_ok _) ?_ | refine Ze ?_ | refine Zf ?_ | refine Zg ?_
          | refine Zh ?_ | refine Zi ?_ | refine Zo ?_ | refine ok_seq ?_ | refine ok_reg ?_ | refine Zp ?_ | refine Zq ?_ | refine ok_block ?_ | refine ok_skip ?_ | refine x_normal_then ?_ | refine x_normal_block ?_
        rw [if_neg ha] at i4
        exact ⟨(a, need + sarityI x.op - 1), ⟨by simp only; omega, by simp only; omega, by simp only; omega, i4⟩, by (try simp only); omega, low_mk (Nat.zero_le _) ⟨⟨rfl, rfl⟩, ⟨rfl, rfl⟩, ⟨rfl, rfl⟩, ⟨rfl, rfl⟩, trivial⟩ trivial⟩
  · have en : decide (0 < need) = false := decide_eq_false hn
    repeat' first
      | refine Z1 ?_ | refine Z2 ?_ | refine Zo ?_ | refine ok_seq ?_ | refine Zq ?_ | refine ok_exit ?_ | refine ok_ret ?_ | refine x_normal_then ?_ | refine x_exit_here ?_ | refine Zv ?_ | refine Zt ?_
    refine ret_vi ?_
    rw [← i4]
    cases a with
    | zero => simp only [beginS]; rw [if_pos (by omega)]; rfl
    | succ a => simp only [beginS]; rw [if_pos (by omega)]
def itemS (x : Itm) : Bool :=
  if (decide (x.op = 3 ∨ x.op = 23 ∨ x.op = 24) != decide (x.name ≠ ⟨#[]⟩)) || (decide (x.op = 3 ∨ x.op = 23 ∨ x.op = 24) && !nameS x.name) then false
  else if x.op = 1 then decide (0 ≤ x.val) && decide (x.val ≤ 2147483647)
  else if x.op = 2 ∨ x.op = 22 ∨ x.op = 23 then decide (0 ≤ x.val) && decide (x.val ≤ 1)
  else if x.op = 21 then decide (-2147483647 ≤ x.val) && decide (x.val ≤ 2147483647)
  else if x.op = 25 then true
  else decide (0 ≤ x.val) && decide (x.val ≤ 0)
set_option maxHeartbeats 1000000 in
theorem sitem_ok (x : Itm) : PFun X 102 [.agg ((eItm x).map .d)] (vb (itemS x)) := by
  refine pfun_of Tryz.func102 rfl (by decide) Tryz.ntmps102 Tryz.results102 (by simp) rfl rfl ?_
  repeat' first
    | refine Z1 ?_ | refine Z2 ?_ | refine Z3 ?_ | refine Z5 ?_ | refine Z6 ?_ | refine Z7 ?_ | refine Z8 ?_ | refine Z9 ?_ | refine Za (fun hc => ?_) (fun hc => ?_) | refine Zb (fun hc => ?_) (fun hc => ?_)
    | refine Zc (sname_ok _) ?_ | refine Zh ?_ | refine Zi ?_ | refine Zj ?_ | refine Zl ?_ | refine Zm ?_ | refine Zo ?_ | refine ok_seq ?_ | refine ok_reg ?_ | refine Zp ?_ | refine Zq ?_ | refine Zr (fun hc => ?_) (fun hc => ?_)
    | refine ok_block ?_ | refine ok_skip ?_ | refine ok_ret ?_ | refine x_normal_then ?_ | refine x_ret_then ?_ | refine x_ret_block ?_ | refine x_normal_block ?_ | refine Zt ?_
  all_goals (refine ret_vb ?_; unfold itemS; grind)
def codeS (l : List Itm) (most : Int) : Bool := if (l.length : Int) < 1 ∨ most < (l.length : Int) ∨ beginS l l.length 1 ≠ 0 then false else l.all itemS
theorem scode_ok (l : List Itm) (most : Int) (hl : l.length ≤ 1048576) : PFun X 89 [.d (.im (l.map eItm)), vi most] (vb (codeS l most)) := by
  refine pfun_of Tryz.func89 rfl (by decide) Tryz.ntmps89 Tryz.results89 (by simp) rfl rfl ?_
  by_cases hbad : (l.length : Int) < 1 ∨ most < (l.length : Int) ∨ beginS l l.length 1 ≠ 0
  · have hn : codeS l most = false := by simp only [codeS, hbad, if_true]
    repeat' first
      | refine Z1 ?_ | refine Z2 ?_ | refine Z5 ?_ | refine Z7 ?_ | refine Z9 ?_ | refine Zb (fun hc => ?_) (fun hc => ?_) | refine Zc (sbegin_ok l l.length (Nat.le_refl _) hl) ?_ | refine Zd ?_ | refine Zh ?_ | refine Zi ?_
      | refine Zl ?_ | refine Zm ?_ | refine Zo ?_ | refine ok_seq ?_ | refine Zp ?_ | refine Zr (fun hc => ?_) (fun hc => ?_) | refine ok_block ?_ | refine ok_skip ?_ | refine ok_ret ?_ | refine x_normal_then ?_ | refine x_ret_then ?_
      | refine Zt ?_
    all_goals simp only [decide_eq_true_eq, decide_eq_false_iff_not, Bool.not_eq_true, Bool.not_eq_false, Bool.not_eq_eq_eq_not, Bool.not_true, Bool.not_false] at *
    all_goals first
      | exact ret_vb hn.symm
      | (exfalso; omega)
  · have e1 : decide ((l.length : Int) < 1) = false := decide_eq_false (by omega)
    have e2 : decide (most < (l.length : Int)) = false := decide_eq_false (by omega)
    have e3 : decide (beginS l l.length 1 ≠ 0) = false := decide_eq_false (by omega)
    have hn : codeS l most = l.all itemS := by simp only [codeS, hbad, if_false]
    repeat' first
      | refine Z1 ?_ | refine Z2 ?_ | refine Z5 ?_ | refine Z7 ?_ | refine Zc (sbegin_ok l l.length (Nat.le_refl _) hl) ?_ | refine Zd ?_ | refine Zh ?_ | refine Zi ?_ | refine Zm ?_ | refine Zo ?_ | refine ok_seq ?_ | refine Zq ?_
      | refine ok_block ?_ | refine ok_skip ?_ | refine x_normal_then ?_
    refine ok_for (ι := Nat) (fun x => envL [(4, vb false), (23, .d (.im (l.map eItm))), (24, vi l.length), (25, vi x)]) (fun x => stL []) (fun x => x ≤ l.length ∧ (l.drop x).all itemS = codeS l most) (fun x => l.length - x) 0 (⟨by omega, by rw [hn]; simp⟩) (weak_mk rfl ⟨.refl _, .refl _, .refl _, .refl _, trivial⟩ trivial) (fun _ => Nat.le_refl 0) ?_
    rintro k ⟨i1, i2⟩
    rcases hx : l[k]? with _ | x
    · have hle := none_le hx
      have ek : decide ((k : Int) < (l.length : Int)) = false := decide_eq_false (by omega)
      rw [drop_none hx] at i2
      repeat' first
        | refine Z1 ?_ | refine Z2 ?_ | refine Zo ?_ | refine ok_seq ?_ | refine Zq ?_ | refine ok_exit ?_ | refine ok_ret ?_ | refine x_normal_then ?_ | refine x_exit_here ?_ | refine Zv ?_ | refine Zt ?_
      exact ret_vb i2
    · obtain ⟨hd, hlt⟩ := drop_some hx
      have ek : decide ((k : Int) < (l.length : Int)) = true := decide_eq_true (by omega)
      rw [hd, List.all_cons] at i2
      cases hdx : itemS x with
      | false =>
        have ex : (!itemS x) = true := by rw [hdx]; rfl
        repeat' first
          | refine Z1 ?_ | refine Z2 ?_ | refine Z5 ?_ | refine Zc (sitem_ok x) ?_ | refine Ze ?_ | refine Zo ?_ | refine ok_seq ?_ | refine Zp ?_ | refine ok_block ?_ | refine ok_skip ?_ | refine ok_ret ?_
          | refine x_normal_then ?_ | refine x_ret_then ?_ | refine x_ret_block ?_ | refine Zt ?_
        exact ret_vb (by rw [← i2, hdx]; rfl)
      | true =>
        have ex : (!itemS x) = false := by rw [hdx]; rfl
        repeat' first
          | refine Z1 ?_ | refine Z2 ?_ | refine Z5 ?_ | refine Zc (sitem_ok x) ?_ | refine Ze ?_ | refine Zf ?_ | refine Zo ?_ | refine ok_seq ?_ | refine ok_reg ?_ | refine Zp ?_ | refine Zq ?_ | refine ok_block ?_
          | refine ok_skip ?_ | refine x_normal_then ?_ | refine x_normal_block ?_
        rw [hdx, Bool.true_and] at i2
        exact ⟨k + 1, ⟨by omega, i2⟩, by (try simp only); omega, low_mk (Nat.zero_le _) ⟨⟨rfl, rfl⟩, ⟨rfl, rfl⟩, ⟨rfl, rfl⟩, ⟨rfl, rfl⟩, trivial⟩ trivial⟩
end Go.Pm
