/- The slots of a class as the program prints them; codes, wherever the builder lies. -/
import Derived.Test.YtaabemmnjhgbgaaGreatDoorD3
import Derived.Test.YtaabemmnjhgbgaaGreatDoorB7
set_option linter.unusedVariables false
set_option linter.unusedSimpArgs false
namespace Go.Pm
attribute [local irreducible] AR Ok inBlock andThen endQ aoper
set_option maxHeartbeats 2000000
open Go.Proofs
theorem sz_of {u a R full : ByteArray} {M : Nat} (h : u ++ (a ++ R) = full) (hf : full.size ≤ M) : (u ++ a).size ≤ M := by
  rw [← ba_assoc] at h
  have := congrArg ByteArray.size h
  rw [ByteArray.size_append] at this
  omega
theorem nx_of {u a R full : ByteArray} (h : u ++ (a ++ R) = full) : u ++ a ++ R = full := by rw [ba_assoc]; exact h
theorem codes_ok {σ : St} {i r h : Nat} {t : ByteArray} (ho : σ.obj i = some (.var [.ref i 0, .sl r h 0 t.size])) (hr : σ.obj r = some (.row h 5 1 (byteRows t))) (l : List Itm) (hv : ∀ x ∈ l, -9223372036854775808 ≤ x.val ∧ x.val ≤ 9223372036854775807) (hl : l.length ≤ 1048576) (hs : (t ++ codeT l).size ≤ 140737488355328) :
    AFun X 29 [.ref i 0, .d (.im (l.map eItm))] σ fun E σ' => E = .ret (.tup []) ∧ σ' = wrUsed σ i r (t ++ codeT l) :=
  bd_lift (codes_s l t hv hl hs) ho hr rfl rfl
def tyT (n : Int) : ByteArray := if n = 1 then B [105, 110, 116] else B [98, 111, 111, 108]
def slotT (w : ByteArray) (x : Slt) : ByteArray := w ++ B [32] ++ x.name ++ B [32] ++ tyT x.type ++ B [10]
def slotsT (w : ByteArray) : List Slt → ByteArray
  | [] => B []
  | x :: l => slotT w x ++ slotsT w l
theorem slots_s (w : ByteArray) (l : List Slt) (t : ByteArray) (hl : l.length ≤ 1048576) (hs : (t ++ slotsT w l).size ≤ 140737488355328) :
    AFun X 26 [vs w, .d (.im (l.map eSlt)), .ref 0 0] (stL (bdO 5 2 t ++ [none])) fun E σ' => E = .ret (.tup []) ∧ σ' = stL (bdO 5 3 (t ++ slotsT w l) ++ [none, none]) := by
  refine afun_of Tryz.func26 rfl (by decide) Tryz.ntmps26 Tryz.results26 (by simp) ?_
  unfold bdO
  repeat' first
    | refine Z1 ?_ | refine Z2 ?_ | refine Z5 ?_ | refine Zd ?_ | refine Zo ?_ | refine ok_block ?_
  refine ok_forR (ι := Nat × ByteArray) (fun x_ => envL [(0, vs w), (2, .ref 0 0), (8, .d (.im (l.map eSlt))), (9, vi l.length), (10, vi x_.1)]) (fun x_ => stL [some (.var [.ref 0 0, .sl 1 3 0 x_.2.size]), some (.row 3 5 1 (byteRows x_.2)), none, none]) (fun x_ => x_.1 ≤ l.length ∧ x_.2 ++ slotsT w (l.drop x_.1) = t ++ slotsT w l) (fun x_ => l.length - x_.1) (0, t) (⟨Nat.zero_le _, rfl⟩) Turn.refl (lowR_mk [(3, 2)] rfl rfl rfl ⟨⟨rfl, rfl⟩, ⟨rfl, rfl⟩, ⟨rfl, rfl⟩, ⟨rfl, rfl⟩, ⟨rfl, rfl⟩, trivial⟩ ⟨⟨rfl, rfl⟩, ⟨renO_row rfl (byteRows_ren _ _), blt_lt rfl, byteRows_low _ _⟩, trivial⟩) ?_
  rintro ⟨k, u⟩ ⟨i1, i2⟩
  simp only at i1 i2
  rcases hx : l[k]? with _ | x
  · have hle := none_le hx
    have ek : decide ((k : Int) < (l.length : Int)) = false := decide_eq_false (by omega)
    rw [drop_none hx] at i2
    simp only [slotsT, ba_nil] at i2
    subst i2
    repeat' first
      | refine Z1 ?_ | refine Z2 ?_ | refine nrm0 ?_ | refine Zo ?_ | refine ok_seq ?_ | refine Zq ?_ | refine ok_exit ?_ | refine x_exit_here ?_ | refine Zv ?_
    exact ⟨rfl, rfl⟩
  obtain ⟨hd, hlt⟩ := drop_some hx
  have ek : decide ((k : Int) < (l.length : Int)) = true := decide_eq_true (by omega)
  rw [hd] at i2
  simp only [slotsT] at i2
  have hz := sz_of i2 hs
  have i2 := nx_of i2
  by_cases o1 : x.type = 1
  · have d1 : decide (x.type = 1) = true := decide_eq_true o1
    have hp : slotT w x = w ++ B [32] ++ x.name ++ B [32] ++ B [105, 110, 116] ++ B [10] := by unfold slotT tyT; rw [if_pos o1]
    rw [hp] at hz i2
    have hz2 := hz
    simp only [ByteArray.size_append] at hz2
    repeat' first
      | refine Z1 ?_ | refine Z2 ?_ | refine Z3 ?_ | refine Z5 ?_ | refine Ul (a := w) (b := B [32]) ?_ | refine Ul (a := w ++ B [32]) (b := x.name) ?_ | refine Ul (a := w ++ B [32] ++ x.name) (b := B [32]) ?_
      | refine Ul (a := w ++ B [32] ++ x.name ++ B [32]) (b := B [105, 110, 116]) ?_ | refine Ul (a := w ++ B [32] ++ x.name ++ B [32] ++ B [105, 110, 116]) (b := B [10]) ?_
      | refine Ym (write_ok (i := 0) (r := 1) (h := 3) (t := u) rfl rfl (w ++ B [32] ++ x.name ++ B [32] ++ B [105, 110, 116] ++ B [10]) hz) ?_ | refine Ze ?_ | refine Zf ?_ | refine Zo ?_ | refine ok_seq ?_ | refine ok_reg ?_ | refine Zp ?_
      | refine ok_block ?_ | refine ok_skip ?_ | refine x_normal_then ?_ | refine x_normal_block ?_
    exact ⟨(k + 1, u ++ (w ++ B [32] ++ x.name ++ B [32] ++ B [105, 110, 116] ++ B [10])), ⟨hlt, i2⟩, by (try simp only); omega, lowR_mk [(3, 5)] rfl rfl rfl ⟨⟨rfl, rfl⟩, ⟨rfl, rfl⟩, ⟨rfl, rfl⟩, ⟨rfl, rfl⟩, ⟨rfl, rfl⟩, trivial⟩ ⟨⟨rfl, rfl⟩, ⟨renO_row rfl (byteRows_ren _ _), blt_lt rfl, byteRows_low _ _⟩, trivial⟩⟩
  · have d1 : decide (x.type = 1) = false := decide_eq_false o1
    have hp : slotT w x = w ++ B [32] ++ x.name ++ B [32] ++ B [98, 111, 111, 108] ++ B [10] := by unfold slotT tyT; rw [if_neg o1]
    rw [hp] at hz i2
    have hz2 := hz
    simp only [ByteArray.size_append] at hz2
    repeat' first
      | refine Z1 ?_ | refine Z2 ?_ | refine Z3 ?_ | refine Z5 ?_ | refine Ul (a := w) (b := B [32]) ?_ | refine Ul (a := w ++ B [32]) (b := x.name) ?_ | refine Ul (a := w ++ B [32] ++ x.name) (b := B [32]) ?_
      | refine Ul (a := w ++ B [32] ++ x.name ++ B [32]) (b := B [98, 111, 111, 108]) ?_ | refine Ul (a := w ++ B [32] ++ x.name ++ B [32] ++ B [98, 111, 111, 108]) (b := B [10]) ?_
      | refine Ym (write_ok (i := 0) (r := 1) (h := 3) (t := u) rfl rfl (w ++ B [32] ++ x.name ++ B [32] ++ B [98, 111, 111, 108] ++ B [10]) hz) ?_ | refine Ze ?_ | refine Zf ?_ | refine Zo ?_ | refine ok_seq ?_ | refine ok_reg ?_
      | refine Zp ?_ | refine Zq ?_ | refine ok_block ?_ | refine ok_skip ?_ | refine x_normal_then ?_ | refine x_normal_block ?_
    exact ⟨(k + 1, u ++ (w ++ B [32] ++ x.name ++ B [32] ++ B [98, 111, 111, 108] ++ B [10])), ⟨hlt, i2⟩, by (try simp only); omega, lowR_mk [(3, 5)] rfl rfl rfl ⟨⟨rfl, rfl⟩, ⟨rfl, rfl⟩, ⟨rfl, rfl⟩, ⟨rfl, rfl⟩, ⟨rfl, rfl⟩, trivial⟩ ⟨⟨rfl, rfl⟩, ⟨renO_row rfl (byteRows_ren _ _), blt_lt rfl, byteRows_low _ _⟩, trivial⟩⟩
theorem slots_ok {σ : St} {i r h : Nat} {t : ByteArray} (ho : σ.obj i = some (.var [.ref i 0, .sl r h 0 t.size])) (hr : σ.obj r = some (.row h 5 1 (byteRows t))) (w : ByteArray) (l : List Slt) (hl : l.length ≤ 1048576) (hs : (t ++ slotsT w l).size ≤ 140737488355328) :
    AFun X 26 [vs w, .d (.im (l.map eSlt)), .ref i 0] σ fun E σ' => E = .ret (.tup []) ∧ σ' = wrUsed σ i r (t ++ slotsT w l) :=
  bd_lift (slots_s w l t hl hs) ho hr rfl rfl
end Go.Pm
/- Machines as texts, as the program prints them. -/
set_option linter.unusedVariables false
set_option linter.unusedSimpArgs false
namespace Go.Pm
attribute [local irreducible] AR Ok inBlock andThen endQ aoper
set_option maxHeartbeats 8000000
open Go.Proofs
theorem nil_ba (a : ByteArray) : B [] ++ a = a := by apply ByteArray.ext; simp [ByteArray.data_append, B]
def headT (c : Cls) : ByteArray := B [99, 108, 97, 115, 115, 32] ++ c.name ++ B [10]
def locT (x : ByteArray) : ByteArray := B [108, 111, 99, 32] ++ x ++ B [10]
def memT (v : Int) : ByteArray := B [109, 101, 109, 32] ++ itoaB v ++ B [10]
def nameOf (cs : List Cls) (g : Int) : ByteArray := match cs[g.toNat]? with | some c => c.name | none => B []
def instT (cs : List Cls) (g : Int) : ByteArray := B [117, 115, 101, 32] ++ nameOf cs g ++ B [10]
def catT {α : Type} (f : α → ByteArray) : List α → ByteArray
  | [] => B []
  | x :: l => f x ++ catT f l
def outT (x : ByteArray) : ByteArray := B [32] ++ x
def argsT : Nat → List (List Itm) → ByteArray
  | _, [] => B []
  | i, a :: l => (if 0 < i then B [32, 44] else B []) ++ (codeT a ++ argsT (i + 1) l)
def setH (s : Sm) : ByteArray := B [115, 101, 116, 32] ++ s.name ++ B [32, 58]
def saveH (s : Sm) : ByteArray := B [115, 97, 118, 101, 32] ++ itoaB s.pos ++ B [32, 58]
def callH (s : Sm) : ByteArray := B [99, 97, 108, 108, 32] ++ itoaB s.pos
def ifH (s : Sm) : ByteArray := B [105, 102, 32] ++ s.name
def stmT (s : Sm) : ByteArray :=
  (if s.kind = 1 then setH s ++ codeT s.code
  else if s.kind = 2 then saveH s ++ codeT s.code
  else if s.kind = 3 then callH s ++ (catT outT s.outs ++ (B [32, 58] ++ argsT 0 s.args))
  else if s.kind = 4 then ifH s
  else if s.kind = 5 then B [101, 108, 115, 101]
  else if s.kind = 6 then B [101, 110, 100] else B []) ++ B [10]
def endT : ByteArray := B [101, 110, 100, 99, 108, 97, 115, 115, 10]
def inB : ByteArray := B [105, 110]
def outB : ByteArray := B [111, 117, 116]
def classT (cs : List Cls) (c : Cls) : ByteArray := headT c ++ (slotsT inB c.ins ++ (slotsT outB c.outs ++ (catT locT c.locs ++ (catT memT c.mems ++ (catT (instT cs) c.insts ++ (catT stmT c.body ++ endT))))))
def machT (cs : List Cls) : ByteArray := catT (classT cs) cs
def R64 (v : Int) : Prop := -9223372036854775808 ≤ v ∧ v ≤ 9223372036854775807
def okP (cs : List Cls) : Prop := ∀ (k : Nat) (c : Cls), cs[k]? = some c → (∀ g ∈ c.insts, 0 ≤ g ∧ g < (k : Int)) ∧ (∀ v ∈ c.mems, R64 v) ∧ ∀ s ∈ c.body, R64 s.pos ∧ (∀ x ∈ s.code, R64 x.val) ∧ ∀ a ∈ s.args, ∀ x ∈ a, R64 x.val
abbrev Px := Option (Nat × ByteArray)
def pk : Px → Nat
  | none => 0
  | some y => y.1
def pt : Px → ByteArray
  | none => B []
  | some y => y.2
def ob1 : Px → Option AO
  | none => some bdFresh
  | some y => some (.var [.ref 1 0, .sl 2 3 0 y.2.size])
def ob2 : Px → Option AO
  | none => none
  | some y => some (.row 3 5 1 (byteRows y.2))
theorem write_any {σ : St} {x : Px} (h1 : σ.obj 1 = ob1 x) (h2 : σ.obj 2 = ob2 x) (hn : 2 < σ.next) (s : ByteArray) (hs : (pt x ++ s).size ≤ 140737488355328) :
    AFun X 27 [.ref 1 0, vs s] σ fun E σ' => E = .ret (.tup [vi s.size, noErr]) ∧ σ' = wrUsed σ 1 2 (pt x ++ s) := by
  cases x with
  | none =>
    have e : pt none ++ s = s := nil_ba s
    rw [e] at hs ⊢
    exact write_first_ok h1 h2 hn s hs
  | some y => exact write_ok h1 h2 s hs
theorem pm_s (cs : List Cls) (hw : wL wCls cs ≤ 1048576) (hne : 0 < cs.length) (hp : okP cs) (hf : (machT cs).size ≤ 140737488355328) : PFun X 16 [.agg [.d (.im (cs.map eCls))]] (vs (machT cs)) := by
  have hcl : cs.length ≤ 1048576 := by simp only [wL] at hw; omega
  refine pfun_of Tryz.func16 rfl (by decide) Tryz.ntmps16 Tryz.results16 (by simp) rfl rfl ?_
  repeat' first
    | refine Ug ?_ | refine Z1 ?_ | refine Z2 ?_ | refine Z5 ?_ | refine Yq ?_ | refine Zd ?_ | refine Zo ?_ | refine ok_seq ?_ | refine ok_block ?_
  refine ok_forR (ι := Px) (fun x => envL [(1, .ref 0 0), (3, .ref 1 0), (4, .fn 26 [.ref 1 0]), (21, .d (.im (cs.map eCls))), (22, vi cs.length), (23, vi (pk x))]) (fun x => stL [some (.var [.d (.im (cs.map eCls))]), ob1 x, ob2 x, none]) (fun x => pk x ≤ cs.length ∧ (x = none ∨ 0 < pk x) ∧ pt x ++ catT (classT cs) (cs.drop (pk x)) = machT cs) (fun x => cs.length - pk x) none ⟨Nat.zero_le _, .inl rfl, nil_ba _⟩ Turn.refl (lowR_mk [] rfl rfl rfl ⟨⟨rfl, rfl⟩, ⟨rfl, rfl⟩, ⟨rfl, rfl⟩, ⟨rfl, rfl⟩, ⟨rfl, rfl⟩, ⟨rfl, rfl⟩, trivial⟩ ⟨⟨rfl, rfl⟩, ⟨rfl, trivial⟩, trivial⟩) ?_
  intro x ⟨i1, i2, i3⟩
  by_cases hk : pk x < cs.length
  rotate_left
  · have ek : decide ((pk x : Int) < (cs.length : Int)) = false := decide_eq_false (by omega)
    cases x with
    | none => exact absurd hne (by simp only [pk] at hk; omega)
    | some y =>
      obtain ⟨k, u⟩ := y
      simp only [pk, pt] at i1 i3 hk
      have hke : cs.drop k = [] := List.drop_eq_nil_of_le (by omega)
      rw [hke] at i3
      simp only [catT, ba_nil] at i3
      subst i3
      by_cases h0 : (machT cs).size = 0
      · exfalso
        obtain ⟨c, r, hcr⟩ : ∃ c r, cs = c :: r := by cases cs with | nil => simp at hne | cons c r => exact ⟨c, r, rfl⟩
        have : 0 < (machT cs).size := by
          unfold machT
          rw [hcr]
          simp only [catT, classT, headT, ByteArray.size_append]
          have : (B [99, 108, 97, 115, 115, 32]).size = 6 := rfl
          omega
        omega
      ·
        repeat' first
          | refine Z1 ?_ | refine Z2 ?_ | refine Z5 ?_ | refine Ym (text_ok (i := 1) (r := 2) (h := 3) (s := machT cs) rfl rfl rfl h0) ?_ | refine Zo ?_ | refine ok_seq ?_ | refine Zq ?_ | refine ok_exit ?_ | refine ok_ret ?_
          | refine x_normal_then ?_ | refine x_exit_here ?_ | refine Zv ?_ | refine Zt ?_
        rfl
  obtain ⟨c, hx⟩ : ∃ c, cs[pk x]? = some c := ⟨cs[pk x], List.getElem?_eq_getElem hk⟩
  obtain ⟨hd, _⟩ := drop_some hx
  have ek : decide ((pk x : Int) < (cs.length : Int)) = true := decide_eq_true (by omega)
  have hwc : wCls c ≤ 1048576 := by have := wL_mem (w := wCls) (List.mem_of_getElem? hx); simp only [wL] at hw; omega
  have hcl2 : c.ins.length + c.outs.length + c.locs.length + c.mems.length + c.insts.length + c.body.length ≤ 1048576 := by simp only [wCls, wL] at hwc; omega
  obtain ⟨p1, p2, p3⟩ := hp (pk x) c hx
  rw [hd] at i3
  simp only [catT, classT, ba_assoc] at i3
  generalize hfull : machT cs = full at i3 hf
  generalize hM : catT (classT cs) (cs.drop (pk x + 1)) = M at i3
  have hz := sz_of i3 hf
  have i3 := nx_of i3
  have hz2 := hz
  unfold headT at hz2
  simp only [ByteArray.size_append] at hz2
  have e0 : St.next (stL [some (.var [.d (.im (cs.map eCls))]), ob1 x, ob2 x, none]) = 4 := rfl
  repeat' first
    | refine Z1 ?_ | refine Z2 ?_ | refine Z5 ?_ | refine Ul (a := B [99, 108, 97, 115, 115, 32]) (b := c.name) ?_ | refine Ul (a := B [99, 108, 97, 115, 115, 32] ++ c.name) (b := B [10]) ?_
    | refine Ym (write_any (x := x) rfl rfl (by show 2 < 5; omega) (B [99, 108, 97, 115, 115, 32] ++ c.name ++ B [10]) hz) ?_
    | refine Yp (slots_ok (i := 1) (r := 2) (h := 5) (t := pt x ++ headT c) rfl rfl inB c.ins (by omega) (sz_of i3 hf)) ?_
    | refine Yp (slots_ok (i := 1) (r := 2) (h := 6) (t := pt x ++ headT c ++ slotsT inB c.ins) rfl rfl outB c.outs (by omega) (sz_of (nx_of i3) hf)) ?_ | refine Zd ?_ | refine Ze ?_ | refine Zo ?_ | refine ok_seq ?_ | refine Zp ?_
    | refine ok_block ?_ | refine ok_skip ?_ | refine x_normal_then ?_
  have i3 := nx_of i3
  have i3 := nx_of i3
  generalize hu : pt x ++ headT c ++ slotsT inB c.ins ++ slotsT outB c.outs = u at i3
  obtain ⟨R1, hR1⟩ : ∃ R1, R1 = catT memT c.mems ++ (catT (instT cs) c.insts ++ (catT stmT c.body ++ (endT ++ M))) := ⟨_, rfl⟩
  rw [← hR1] at i3
  refine ok_forR (ι := Nat × ByteArray) (fun x_ => envL [(1, .ref 0 0), (3, .ref 1 0), (4, .fn 26 [.ref 1 0]), (21, .d (.im (cs.map eCls))), (22, vi cs.length), (23, vi (pk x)), (6, .ref 4 0), (41, .d (.im (c.locs.map eStr))), (42, vi c.locs.length), (43, vi x_.1)]) (fun x_ => stL [some (.var [.d (.im (cs.map eCls))]), some (.var [.ref 1 0, .sl 2 8 0 x_.2.size]), some (.row 8 5 1 (byteRows x_.2)), none, some (.var ((eCls c).map .d)), none, none, none, none]) (fun x_ => x_.1 ≤ c.locs.length ∧ x_.2 ++ (catT locT (c.locs.drop x_.1) ++ R1) = full) (fun x_ => c.locs.length - x_.1) (0, u) (⟨Nat.zero_le _, i3⟩) Turn.refl (lowR_mk [(8, 7)] rfl rfl rfl ⟨⟨rfl, rfl⟩, ⟨rfl, rfl⟩, ⟨rfl, rfl⟩, ⟨rfl, rfl⟩, ⟨rfl, rfl⟩, ⟨rfl, rfl⟩, ⟨rfl, rfl⟩, ⟨rfl, rfl⟩, ⟨rfl, rfl⟩, ⟨rfl, rfl⟩, trivial⟩ ⟨⟨rfl, rfl⟩, ⟨rfl, rfl⟩, ⟨renO_row rfl (byteRows_ren _ _), blt_lt rfl, byteRows_low _ _⟩, ⟨rfl, rfl⟩, trivial⟩) ?_
  rintro ⟨k, v⟩ ⟨j1, j2⟩
  simp only at j1 j2
  by_cases hyl : k < c.locs.length
  · obtain ⟨y, hy⟩ : ∃ y, c.locs[k]? = some y := ⟨c.locs[k], List.getElem?_eq_getElem hyl⟩
    obtain ⟨hd2, hlt2⟩ := drop_some hy
    have ey : decide ((k : Int) < (c.locs.length : Int)) = true := decide_eq_true (by omega)
    rw [hd2] at j2
    simp only [catT] at j2
    rw [ba_assoc] at j2
    have hz := sz_of j2 hf
    have j2 := nx_of j2
    have hz2 := hz
    unfold locT at hz2
    simp only [ByteArray.size_append] at hz2
    repeat' first
      | refine Z1 ?_ | refine Z2 ?_ | refine Z3 ?_ | refine Z5 ?_ | refine Ul (a := B [108, 111, 99, 32]) (b := y) ?_ | refine Ul (a := B [108, 111, 99, 32] ++ y) (b := B [10]) ?_
      | refine Ym (write_ok (i := 1) (r := 2) (h := 8) (t := v) rfl rfl (locT y) hz) ?_ | refine Ze ?_ | refine Zf ?_ | refine Zo ?_ | refine ok_seq ?_ | refine ok_reg ?_ | refine Zp ?_ | refine ok_block ?_ | refine ok_skip ?_
      | refine x_normal_then ?_ | refine x_normal_block ?_
    exact ⟨(k + 1, v ++ locT y), ⟨hlt2, j2⟩, by (try simp only); omega, lowR_mk [(8, 9)] rfl rfl rfl ⟨⟨rfl, rfl⟩, ⟨rfl, rfl⟩, ⟨rfl, rfl⟩, ⟨rfl, rfl⟩, ⟨rfl, rfl⟩, ⟨rfl, rfl⟩, ⟨rfl, rfl⟩, ⟨rfl, rfl⟩, ⟨rfl, rfl⟩, ⟨rfl, rfl⟩, trivial⟩ ⟨⟨rfl, rfl⟩, ⟨rfl, rfl⟩, ⟨renO_row rfl (byteRows_ren _ _), blt_lt rfl, byteRows_low _ _⟩, ⟨rfl, rfl⟩, trivial⟩⟩
  have ey : decide ((k : Int) < (c.locs.length : Int)) = false := decide_eq_false (by omega)
  rw [List.drop_eq_nil_of_le (by omega)] at j2
  simp only [catT, nil_ba] at j2
  rw [hR1] at j2
  repeat' first
    | refine Z1 ?_ | refine Z2 ?_ | refine Z5 ?_ | refine Zd ?_ | refine Zo ?_ | refine ok_seq ?_ | refine Zq ?_ | refine ok_block ?_ | refine ok_exit ?_ | refine x_normal_then ?_ | refine x_exit_here ?_ | refine Zv ?_
  obtain ⟨R2, hR2⟩ : ∃ R2, R2 = catT (instT cs) c.insts ++ (catT stmT c.body ++ (endT ++ M)) := ⟨_, rfl⟩
  rw [← hR2] at j2
  refine ok_forR (ι := Nat × ByteArray) (fun x_ => envL [(1, .ref 0 0), (3, .ref 1 0), (4, .fn 26 [.ref 1 0]), (21, .d (.im (cs.map eCls))), (22, vi cs.length), (23, vi (pk x)), (6, .ref 4 0), (53, .d (.im (c.mems.map eNum))), (54, vi c.mems.length), (55, vi x_.1)]) (fun x_ => stL [some (.var [.d (.im (cs.map eCls))]), some (.var [.ref 1 0, .sl 2 9 0 x_.2.size]), some (.row 9 5 1 (byteRows x_.2)), none, some (.var ((eCls c).map .d)), none, none, none, none, none]) (fun x_ => x_.1 ≤ c.mems.length ∧ x_.2 ++ (catT memT (c.mems.drop x_.1) ++ R2) = full) (fun x_ => c.mems.length - x_.1) (0, v) (⟨Nat.zero_le _, j2⟩) Turn.refl (lowR_mk [(9, 8)] rfl rfl rfl ⟨⟨rfl, rfl⟩, ⟨rfl, rfl⟩, ⟨rfl, rfl⟩, ⟨rfl, rfl⟩, ⟨rfl, rfl⟩, ⟨rfl, rfl⟩, ⟨rfl, rfl⟩, ⟨rfl, rfl⟩, ⟨rfl, rfl⟩, ⟨rfl, rfl⟩, trivial⟩ ⟨⟨rfl, rfl⟩, ⟨rfl, rfl⟩, ⟨renO_row rfl (byteRows_ren _ _), blt_lt rfl, byteRows_low _ _⟩, ⟨rfl, rfl⟩, trivial⟩) ?_
  clear j2
  rintro ⟨k, v⟩ ⟨j1, j2⟩
  simp only at j1 j2
  by_cases hyl : k < c.mems.length
  · obtain ⟨y, hy⟩ : ∃ y, c.mems[k]? = some y := ⟨c.mems[k], List.getElem?_eq_getElem hyl⟩
    obtain ⟨hd2, hlt2⟩ := drop_some hy
    have ey : decide ((k : Int) < (c.mems.length : Int)) = true := decide_eq_true (by omega)
    obtain ⟨v1, v2⟩ := p2 y (List.mem_of_getElem? hy)
    rw [hd2] at j2
    simp only [catT] at j2
    rw [ba_assoc] at j2
    have hz := sz_of j2 hf
    have j2 := nx_of j2
    have hz2 := hz
    unfold memT at hz2
    simp only [ByteArray.size_append] at hz2
    repeat' first
      | refine Z1 ?_ | refine Z2 ?_ | refine Z3 ?_ | refine Z5 ?_ | refine Zc (itoa_ok y v1 v2) ?_ | refine Ul (a := B [109, 101, 109, 32]) (b := itoaB y) ?_ | refine Ul (a := B [109, 101, 109, 32] ++ itoaB y) (b := B [10]) ?_
      | refine Ym (write_ok (i := 1) (r := 2) (h := 9) (t := v) rfl rfl (memT y) hz) ?_ | refine Ze ?_ | refine Zf ?_ | refine Zo ?_ | refine ok_seq ?_ | refine ok_reg ?_ | refine Zp ?_ | refine ok_block ?_ | refine ok_skip ?_
      | refine x_normal_then ?_ | refine x_normal_block ?_
    exact ⟨(k + 1, v ++ memT y), ⟨hlt2, j2⟩, by (try simp only); omega, lowR_mk [(9, 10)] rfl rfl rfl ⟨⟨rfl, rfl⟩, ⟨rfl, rfl⟩, ⟨rfl, rfl⟩, ⟨rfl, rfl⟩, ⟨rfl, rfl⟩, ⟨rfl, rfl⟩, ⟨rfl, rfl⟩, ⟨rfl, rfl⟩, ⟨rfl, rfl⟩, ⟨rfl, rfl⟩, trivial⟩ ⟨⟨rfl, rfl⟩, ⟨rfl, rfl⟩, ⟨renO_row rfl (byteRows_ren _ _), blt_lt rfl, byteRows_low _ _⟩, ⟨rfl, rfl⟩, trivial⟩⟩
  have ey : decide ((k : Int) < (c.mems.length : Int)) = false := decide_eq_false (by omega)
  rw [List.drop_eq_nil_of_le (by omega)] at j2
  simp only [catT, nil_ba] at j2
  rw [hR2] at j2
  repeat' first
    | refine Z1 ?_ | refine Z2 ?_ | refine Z5 ?_ | refine Zd ?_ | refine Zo ?_ | refine ok_seq ?_ | refine Zq ?_ | refine ok_block ?_ | refine ok_exit ?_ | refine x_normal_then ?_ | refine x_exit_here ?_ | refine Zv ?_
  obtain ⟨R3, hR3⟩ : ∃ R3, R3 = catT stmT c.body ++ (endT ++ M) := ⟨_, rfl⟩
  rw [← hR3] at j2
  refine ok_forR (ι := Nat × ByteArray) (fun x_ => envL [(1, .ref 0 0), (3, .ref 1 0), (4, .fn 26 [.ref 1 0]), (21, .d (.im (cs.map eCls))), (22, vi cs.length), (23, vi (pk x)), (6, .ref 4 0), (66, .d (.im (c.insts.map eNum))), (67, vi c.insts.length), (68, vi x_.1)]) (fun x_ => stL [some (.var [.d (.im (cs.map eCls))]), some (.var [.ref 1 0, .sl 2 10 0 x_.2.size]), some (.row 10 5 1 (byteRows x_.2)), none, some (.var ((eCls c).map .d)), none, none, none, none, none, none]) (fun x_ => x_.1 ≤ c.insts.length ∧ x_.2 ++ (catT (instT cs) (c.insts.drop x_.1) ++ R3) = full) (fun x_ => c.insts.length - x_.1) (0, v) (⟨Nat.zero_le _, j2⟩) Turn.refl (lowR_mk [(10, 9)] rfl rfl rfl ⟨⟨rfl, rfl⟩, ⟨rfl, rfl⟩, ⟨rfl, rfl⟩, ⟨rfl, rfl⟩, ⟨rfl, rfl⟩, ⟨rfl, rfl⟩, ⟨rfl, rfl⟩, ⟨rfl, rfl⟩, ⟨rfl, rfl⟩, ⟨rfl, rfl⟩, trivial⟩ ⟨⟨rfl, rfl⟩, ⟨rfl, rfl⟩, ⟨renO_row rfl (byteRows_ren _ _), blt_lt rfl, byteRows_low _ _⟩, ⟨rfl, rfl⟩, trivial⟩) ?_
  clear j2
  rintro ⟨k, v⟩ ⟨j1, j2⟩
  simp only at j1 j2
  by_cases hyl : k < c.insts.length
  · obtain ⟨g, hy⟩ : ∃ g, c.insts[k]? = some g := ⟨c.insts[k], List.getElem?_eq_getElem hyl⟩
    obtain ⟨hd2, hlt2⟩ := drop_some hy
    have ey : decide ((k : Int) < (c.insts.length : Int)) = true := decide_eq_true (by omega)
    obtain ⟨g0, g1⟩ := p1 g (List.mem_of_getElem? hy)
    obtain ⟨gn, hgn⟩ : ∃ gn : Nat, g = (gn : Int) := ⟨g.toNat, by omega⟩
    obtain ⟨d, hd3⟩ : ∃ d, cs[gn]? = some d := ⟨cs[gn]'(by omega), List.getElem?_eq_getElem (by omega)⟩
    have hnm : instT cs g = B [117, 115, 101, 32] ++ d.name ++ B [10] := by unfold instT nameOf; rw [hgn, Int.toNat_natCast, hd3]
    rw [hd2] at j2
    simp only [catT] at j2
    rw [ba_assoc, hnm] at j2
    have hz := sz_of j2 hf
    have j2 := nx_of j2
    have hz2 := hz
    simp only [ByteArray.size_append] at hz2
    repeat' first
      | refine Z1 ?_ | refine Z2 ?_ | refine Z3 ?_ | refine Z5 ?_ | refine Yej (e := eCls) (n := g) gn hgn hd3 ?_ | refine Ul (a := B [117, 115, 101, 32]) (b := d.name) ?_
      | refine Ul (a := B [117, 115, 101, 32] ++ d.name) (b := B [10]) ?_ | refine Ym (write_ok (i := 1) (r := 2) (h := 10) (t := v) rfl rfl (B [117, 115, 101, 32] ++ d.name ++ B [10]) hz) ?_ | refine Ze ?_ | refine Zf ?_ | refine Zo ?_
      | refine ok_seq ?_ | refine ok_reg ?_ | refine Zp ?_ | refine ok_block ?_ | refine ok_skip ?_ | refine x_normal_then ?_ | refine x_normal_block ?_
    exact ⟨(k + 1, v ++ (B [117, 115, 101, 32] ++ d.name ++ B [10])), ⟨hlt2, j2⟩, by (try simp only); omega, lowR_mk [(10, 11)] rfl rfl rfl ⟨⟨rfl, rfl⟩, ⟨rfl, rfl⟩, ⟨rfl, rfl⟩, ⟨rfl, rfl⟩, ⟨rfl, rfl⟩, ⟨rfl, rfl⟩, ⟨rfl, rfl⟩, ⟨rfl, rfl⟩, ⟨rfl, rfl⟩, ⟨rfl, rfl⟩, trivial⟩ ⟨⟨rfl, rfl⟩, ⟨rfl, rfl⟩, ⟨renO_row rfl (byteRows_ren _ _), blt_lt rfl, byteRows_low _ _⟩, ⟨rfl, rfl⟩, trivial⟩⟩
  have ey : decide ((k : Int) < (c.insts.length : Int)) = false := decide_eq_false (by omega)
  rw [List.drop_eq_nil_of_le (by omega)] at j2
  simp only [catT, nil_ba] at j2
  rw [hR3] at j2
  repeat' first
    | refine Z1 ?_ | refine Z2 ?_ | refine Z5 ?_ | refine Zd ?_ | refine Zo ?_ | refine ok_seq ?_ | refine Zq ?_ | refine ok_block ?_ | refine ok_exit ?_ | refine x_normal_then ?_ | refine x_exit_here ?_ | refine Zv ?_
  obtain ⟨R4, hR4⟩ : ∃ R4, R4 = endT ++ M := ⟨_, rfl⟩
  rw [← hR4] at j2
  refine ok_forR (ι := Nat × ByteArray) (fun x_ => envL [(1, .ref 0 0), (3, .ref 1 0), (4, .fn 26 [.ref 1 0]), (21, .d (.im (cs.map eCls))), (22, vi cs.length), (23, vi (pk x)), (6, .ref 4 0), (83, .d (.im (c.body.map eSm))), (84, vi c.body.length), (85, vi x_.1)]) (fun x_ => stL [some (.var [.d (.im (cs.map eCls))]), some (.var [.ref 1 0, .sl 2 11 0 x_.2.size]), some (.row 11 5 1 (byteRows x_.2)), none, some (.var ((eCls c).map .d)), none, none, none, none, none, none, none]) (fun x_ => x_.1 ≤ c.body.length ∧ x_.2 ++ (catT stmT (c.body.drop x_.1) ++ R4) = full) (fun x_ => c.body.length - x_.1) (0, v) (⟨Nat.zero_le _, j2⟩) Turn.refl (lowR_mk [(11, 10)] rfl rfl rfl ⟨⟨rfl, rfl⟩, ⟨rfl, rfl⟩, ⟨rfl, rfl⟩, ⟨rfl, rfl⟩, ⟨rfl, rfl⟩, ⟨rfl, rfl⟩, ⟨rfl, rfl⟩, ⟨rfl, rfl⟩, ⟨rfl, rfl⟩, ⟨rfl, rfl⟩, trivial⟩ ⟨⟨rfl, rfl⟩, ⟨rfl, rfl⟩, ⟨renO_row rfl (byteRows_ren _ _), blt_lt rfl, byteRows_low _ _⟩, ⟨rfl, rfl⟩, trivial⟩) ?_
  clear j2
  rintro ⟨k, v⟩ ⟨j1, j2⟩
  simp only at j1 j2
  by_cases hyl : k < c.body.length
  rotate_left
  · have ey : decide ((k : Int) < (c.body.length : Int)) = false := decide_eq_false (by omega)
    rw [List.drop_eq_nil_of_le (by omega)] at j2
    simp only [catT, nil_ba] at j2
    rw [hR4] at j2
    have hz := sz_of j2 hf
    have j2 := nx_of j2
    rw [← hM] at j2
    repeat' first
      | refine Z1 ?_ | refine Z2 ?_ | refine Z3 ?_ | refine Z5 ?_ | refine Ym (write_ok (i := 1) (r := 2) (h := 11) (t := v) rfl rfl endT hz) ?_ | refine Zf ?_ | refine Zo ?_ | refine ok_seq ?_ | refine ok_reg ?_ | refine Zq ?_
      | refine ok_exit ?_ | refine x_normal_then ?_ | refine x_exit_here ?_ | refine Zv ?_ | refine x_normal_block ?_
    refine ⟨some (pk x + 1, v ++ endT), ⟨hk, .inr (Nat.succ_pos _), j2⟩, by show cs.length - (pk x + 1) < cs.length - pk x; omega, ?_⟩
    exact lowR_mk [(3, 12)] rfl rfl rfl ⟨⟨rfl, rfl⟩, ⟨rfl, rfl⟩, ⟨rfl, rfl⟩, ⟨rfl, rfl⟩, ⟨rfl, rfl⟩, ⟨rfl, rfl⟩, trivial⟩ ⟨⟨rfl, rfl⟩, ⟨rfl, rfl⟩, ⟨renO_row rfl (byteRows_ren _ _), blt_lt rfl, byteRows_low _ _⟩, trivial⟩
  obtain ⟨s, hy⟩ : ∃ s, c.body[k]? = some s := ⟨c.body[k], List.getElem?_eq_getElem hyl⟩
  obtain ⟨hd2, hlt2⟩ := drop_some hy
  have ey : decide ((k : Int) < (c.body.length : Int)) = true := decide_eq_true (by omega)
  obtain ⟨⟨q1, q2⟩, q3, q4⟩ := p3 s (List.mem_of_getElem? hy)
  have hws : wSm s ≤ 1048576 := by have := wL_mem (w := wSm) (List.mem_of_getElem? hy); simp only [wCls, wL] at hwc; omega
  have hsl : s.code.length ≤ 1048576 := by simp only [wSm, wL] at hws; omega
  rw [hd2] at j2
  simp only [catT, stmT] at j2
  generalize hR5 : catT stmT (c.body.drop (k + 1)) ++ R4 = R5 at j2
  have hnl : ∀ {w : ByteArray}, w ++ (B [10] ++ R5) = full → (w ++ B [10]).size ≤ 140737488355328 ∧ w ++ B [10] ++ (catT stmT (c.body.drop (k + 1)) ++ R4) = full := fun h => ⟨sz_of h hf, by rw [hR5]; exact nx_of h⟩
  by_cases k1 : s.kind = 1
  · have d1 : decide (s.kind = 1) = true := decide_eq_true k1
    rw [if_pos k1] at j2
    simp only [ba_assoc, hR5] at j2
    have hz := sz_of j2 hf
    have j2 := nx_of j2
    have hz2 := hz
    unfold setH at hz2
    simp only [ByteArray.size_append] at hz2
    obtain ⟨hz4, j5⟩ := hnl (nx_of j2)
    repeat' first
      | refine Z1 ?_ | refine Z2 ?_ | refine Z3 ?_ | refine Z5 ?_ | refine Ul (a := B [115, 101, 116, 32]) (b := s.name) ?_ | refine Ul (a := B [115, 101, 116, 32] ++ s.name) (b := B [32, 58]) ?_
      | refine Ym (write_ok (i := 1) (r := 2) (h := 11) (t := v) rfl rfl (setH s) hz) ?_ | refine Ym (codes_ok (i := 1) (r := 2) (h := 13) (t := v ++ setH s) rfl rfl s.code q3 hsl (sz_of j2 hf)) ?_
      | refine Ym (write_ok (i := 1) (r := 2) (h := 14) (t := v ++ setH s ++ codeT s.code) rfl rfl (B [10]) hz4) ?_ | refine Ze ?_ | refine Zf ?_ | refine Zo ?_ | refine ok_seq ?_ | refine ok_reg ?_ | refine Zp ?_ | refine ok_block ?_
      | refine ok_skip ?_ | refine x_normal_then ?_ | refine x_normal_block ?_
    exact ⟨(k + 1, v ++ setH s ++ codeT s.code ++ B [10]), ⟨hlt2, j5⟩, by (try simp only); omega, lowR_mk [(11, 15)] rfl rfl rfl ⟨⟨rfl, rfl⟩, ⟨rfl, rfl⟩, ⟨rfl, rfl⟩, ⟨rfl, rfl⟩, ⟨rfl, rfl⟩, ⟨rfl, rfl⟩, ⟨rfl, rfl⟩, ⟨rfl, rfl⟩, ⟨rfl, rfl⟩, ⟨rfl, rfl⟩, trivial⟩ ⟨⟨rfl, rfl⟩, ⟨rfl, rfl⟩, ⟨renO_row rfl (byteRows_ren _ _), blt_lt rfl, byteRows_low _ _⟩, ⟨rfl, rfl⟩, trivial⟩⟩
  have d1 : decide (s.kind = 1) = false := decide_eq_false k1
  rw [if_neg k1] at j2
  by_cases k2 : s.kind = 2
  · have d2 : decide (s.kind = 2) = true := decide_eq_true k2
    rw [if_pos k2] at j2
    simp only [ba_assoc, hR5] at j2
    have hz := sz_of j2 hf
    have j2 := nx_of j2
    have hz2 := hz
    unfold saveH at hz2
    simp only [ByteArray.size_append] at hz2
    obtain ⟨hz4, j5⟩ := hnl (nx_of j2)
    repeat' first
      | refine Z1 ?_ | refine Z2 ?_ | refine Z3 ?_ | refine Z5 ?_ | refine Zc (itoa_ok s.pos q1 q2) ?_ | refine Ul (a := B [115, 97, 118, 101, 32]) (b := itoaB s.pos) ?_
      | refine Ul (a := B [115, 97, 118, 101, 32] ++ itoaB s.pos) (b := B [32, 58]) ?_ | refine Ym (write_ok (i := 1) (r := 2) (h := 11) (t := v) rfl rfl (saveH s) hz) ?_
      | refine Ym (codes_ok (i := 1) (r := 2) (h := 13) (t := v ++ saveH s) rfl rfl s.code q3 hsl (sz_of j2 hf)) ?_ | refine Ym (write_ok (i := 1) (r := 2) (h := 14) (t := v ++ saveH s ++ codeT s.code) rfl rfl (B [10]) hz4) ?_ | refine Ze ?_
      | refine Zf ?_ | refine Zo ?_ | refine ok_seq ?_ | refine ok_reg ?_ | refine Zp ?_ | refine Zq ?_ | refine ok_block ?_ | refine ok_skip ?_ | refine x_normal_then ?_ | refine x_normal_block ?_
    exact ⟨(k + 1, v ++ saveH s ++ codeT s.code ++ B [10]), ⟨hlt2, j5⟩, by (try simp only); omega, lowR_mk [(11, 15)] rfl rfl rfl ⟨⟨rfl, rfl⟩, ⟨rfl, rfl⟩, ⟨rfl, rfl⟩, ⟨rfl, rfl⟩, ⟨rfl, rfl⟩, ⟨rfl, rfl⟩, ⟨rfl, rfl⟩, ⟨rfl, rfl⟩, ⟨rfl, rfl⟩, ⟨rfl, rfl⟩, trivial⟩ ⟨⟨rfl, rfl⟩, ⟨rfl, rfl⟩, ⟨renO_row rfl (byteRows_ren _ _), blt_lt rfl, byteRows_low _ _⟩, ⟨rfl, rfl⟩, trivial⟩⟩
  have d2 : decide (s.kind = 2) = false := decide_eq_false k2
  rw [if_neg k2] at j2
  by_cases k3 : s.kind = 3
  · have d3 : decide (s.kind = 3) = true := decide_eq_true k3
    rw [if_pos k3] at j2
    simp only [ba_assoc, hR5] at j2
    have hz := sz_of j2 hf
    have j2 := nx_of j2
    have hz2 := hz
    unfold callH at hz2
    simp only [ByteArray.size_append] at hz2
    have hso : s.outs.length ≤ 1048576 := by simp only [wSm, wL] at hws; omega
    have hsa : s.args.length ≤ 1048576 := by simp only [wSm, wL] at hws; omega
    repeat' first
      | refine Z1 ?_ | refine Z2 ?_ | refine Z5 ?_ | refine Zc (itoa_ok s.pos q1 q2) ?_ | refine Ul (a := B [99, 97, 108, 108, 32]) (b := itoaB s.pos) ?_
      | refine Ym (write_ok (i := 1) (r := 2) (h := 11) (t := v) rfl rfl (callH s) hz) ?_ | refine Zd ?_ | refine Ze ?_ | refine Zo ?_ | refine ok_seq ?_ | refine Zp ?_ | refine Zq ?_ | refine ok_block ?_ | refine ok_skip ?_
      | refine x_normal_then ?_
    obtain ⟨R6, hR6⟩ : ∃ R6, R6 = B [32, 58] ++ (argsT 0 s.args ++ (B [10] ++ R5)) := ⟨_, rfl⟩
    rw [← hR6] at j2
    refine ok_forR (ι := Nat × ByteArray) (fun x_ => envL [(1, .ref 0 0), (3, .ref 1 0), (4, .fn 26 [.ref 1 0]), (21, .d (.im (cs.map eCls))), (22, vi cs.length), (23, vi (pk x)), (6, .ref 4 0), (83, .d (.im (c.body.map eSm))), (84, vi c.body.length), (85, vi k), (14, .ref 12 0), (120, .d (.im (s.outs.map eStr))), (121, vi s.outs.length), (122, vi x_.1)]) (fun x_ => stL [some (.var [.d (.im (cs.map eCls))]), some (.var [.ref 1 0, .sl 2 14 0 x_.2.size]), some (.row 14 5 1 (byteRows x_.2)), none, some (.var ((eCls c).map .d)), none, none, none, none, none, none, none, some (.var ((eSm s).map .d)), none, none]) (fun x_ => x_.1 ≤ s.outs.length ∧ x_.2 ++ (catT outT (s.outs.drop x_.1) ++ R6) = full) (fun x_ => s.outs.length - x_.1) (0, v ++ callH s) (⟨Nat.zero_le _, j2⟩) Turn.refl (lowR_mk [(14, 13)] rfl rfl rfl ⟨⟨rfl, rfl⟩, ⟨rfl, rfl⟩, ⟨rfl, rfl⟩, ⟨rfl, rfl⟩, ⟨rfl, rfl⟩, ⟨rfl, rfl⟩, ⟨rfl, rfl⟩, ⟨rfl, rfl⟩, ⟨rfl, rfl⟩, ⟨rfl, rfl⟩, ⟨rfl, rfl⟩, ⟨rfl, rfl⟩, ⟨rfl, rfl⟩, ⟨rfl, rfl⟩, trivial⟩ ⟨⟨rfl, rfl⟩, ⟨rfl, rfl⟩, ⟨renO_row rfl (byteRows_ren _ _), blt_lt rfl, byteRows_low _ _⟩, ⟨rfl, rfl⟩, ⟨rfl, rfl⟩, trivial⟩) ?_
    clear j2
    rintro ⟨m, z⟩ ⟨j1, j2⟩
    simp only at j1 j2
    by_cases hml : m < s.outs.length
    · obtain ⟨y, hy2⟩ : ∃ y, s.outs[m]? = some y := ⟨s.outs[m], List.getElem?_eq_getElem hml⟩
      obtain ⟨hd3, hlt3⟩ := drop_some hy2
      have em : decide ((m : Int) < (s.outs.length : Int)) = true := decide_eq_true (by omega)
      rw [hd3] at j2
      simp only [catT] at j2
      rw [ba_assoc] at j2
      have hz := sz_of j2 hf
      have j2 := nx_of j2
      have hz2 := hz
      unfold outT at hz2
      simp only [ByteArray.size_append] at hz2
      repeat' first
        | refine Z1 ?_ | refine Z2 ?_ | refine Z3 ?_ | refine Z5 ?_ | refine Ul (a := B [32]) (b := y) ?_ | refine Ym (write_ok (i := 1) (r := 2) (h := 14) (t := z) rfl rfl (outT y) hz) ?_ | refine Ze ?_ | refine Zf ?_
        | refine Zo ?_ | refine ok_seq ?_ | refine ok_reg ?_ | refine Zp ?_ | refine ok_block ?_ | refine ok_skip ?_ | refine x_normal_then ?_ | refine x_normal_block ?_
      exact ⟨(m + 1, z ++ outT y), ⟨hlt3, j2⟩, by (try simp only); omega, lowR_mk [(14, 15)] rfl rfl rfl ⟨⟨rfl, rfl⟩, ⟨rfl, rfl⟩, ⟨rfl, rfl⟩, ⟨rfl, rfl⟩, ⟨rfl, rfl⟩, ⟨rfl, rfl⟩, ⟨rfl, rfl⟩, ⟨rfl, rfl⟩, ⟨rfl, rfl⟩, ⟨rfl, rfl⟩, ⟨rfl, rfl⟩, ⟨rfl, rfl⟩, ⟨rfl, rfl⟩, ⟨rfl, rfl⟩, trivial⟩ ⟨⟨rfl, rfl⟩, ⟨rfl, rfl⟩, ⟨renO_row rfl (byteRows_ren _ _), blt_lt rfl, byteRows_low _ _⟩, ⟨rfl, rfl⟩, ⟨rfl, rfl⟩, trivial⟩⟩
    have em : decide ((m : Int) < (s.outs.length : Int)) = false := decide_eq_false (by omega)
    rw [List.drop_eq_nil_of_le (by omega)] at j2
    simp only [catT, nil_ba] at j2
    rw [hR6] at j2
    have hz := sz_of j2 hf
    have j2 := nx_of j2
    repeat' first
      | refine Z1 ?_ | refine Z2 ?_ | refine Z5 ?_ | refine Ym (write_ok (i := 1) (r := 2) (h := 14) (t := z) rfl rfl (B [32, 58]) hz) ?_ | refine Zd ?_ | refine Zo ?_ | refine ok_seq ?_ | refine Zq ?_ | refine ok_block ?_
      | refine ok_exit ?_ | refine x_normal_then ?_ | refine x_exit_here ?_ | refine Zv ?_
    refine ok_forR (ι := Nat × ByteArray) (fun x_ => envL [(1, .ref 0 0), (3, .ref 1 0), (4, .fn 26 [.ref 1 0]), (21, .d (.im (cs.map eCls))), (22, vi cs.length), (23, vi (pk x)), (6, .ref 4 0), (83, .d (.im (c.body.map eSm))), (84, vi c.body.length), (85, vi k), (14, .ref 12 0), (132, .d (.im (s.args.map eItms))), (133, vi s.args.length), (134, vi x_.1)]) (fun x_ => stL [some (.var [.d (.im (cs.map eCls))]), some (.var [.ref 1 0, .sl 2 16 0 x_.2.size]), some (.row 16 5 1 (byteRows x_.2)), none, some (.var ((eCls c).map .d)), none, none, none, none, none, none, none, some (.var ((eSm s).map .d)), none, none, none, none]) (fun x_ => x_.1 ≤ s.args.length ∧ x_.2 ++ (argsT x_.1 (s.args.drop x_.1) ++ (B [10] ++ R5)) = full) (fun x_ => s.args.length - x_.1) (0, z ++ B [32, 58]) (⟨Nat.zero_le _, j2⟩) Turn.refl (lowR_mk [(16, 15)] rfl rfl rfl ⟨⟨rfl, rfl⟩, ⟨rfl, rfl⟩, ⟨rfl, rfl⟩, ⟨rfl, rfl⟩, ⟨rfl, rfl⟩, ⟨rfl, rfl⟩, ⟨rfl, rfl⟩, ⟨rfl, rfl⟩, ⟨rfl, rfl⟩, ⟨rfl, rfl⟩, ⟨rfl, rfl⟩, ⟨rfl, rfl⟩, ⟨rfl, rfl⟩, ⟨rfl, rfl⟩, trivial⟩ ⟨⟨rfl, rfl⟩, ⟨rfl, rfl⟩, ⟨renO_row rfl (byteRows_ren _ _), blt_lt rfl, byteRows_low _ _⟩, ⟨rfl, rfl⟩, ⟨rfl, rfl⟩, trivial⟩) ?_
    clear j2
    rintro ⟨m, z⟩ ⟨j1, j2⟩
    simp only at j1 j2
    by_cases hml : m < s.args.length
    · obtain ⟨y, hy2⟩ : ∃ y, s.args[m]? = some y := ⟨s.args[m], List.getElem?_eq_getElem hml⟩
      obtain ⟨hd3, hlt3⟩ := drop_some hy2
      have em : decide ((m : Int) < (s.args.length : Int)) = true := decide_eq_true (by omega)
      have hyl2 : y.length ≤ 1048576 := by
        have := wL_mem (w := wL wItm) (List.mem_of_getElem? hy2)
        simp only [wSm, wL] at this hws
        omega
      have hyv := q4 y (List.mem_of_getElem? hy2)
      rw [hd3] at j2
      simp only [argsT] at j2
      by_cases hm0 : 0 < m
      · have e0 : decide (0 < (m : Int)) = true := decide_eq_true (by omega)
        rw [if_pos hm0] at j2
        simp only [ba_assoc] at j2
        have hz := sz_of j2 hf
        have j2 := nx_of j2
        repeat' first
          | refine Z1 ?_ | refine Z2 ?_ | refine Z3 ?_ | refine Z5 ?_ | refine Ym (write_ok (i := 1) (r := 2) (h := 16) (t := z) rfl rfl (B [32, 44]) hz) ?_
          | refine Ym (codes_ok (i := 1) (r := 2) (h := 17) (t := z ++ B [32, 44]) rfl rfl y hyv hyl2 (sz_of j2 hf)) ?_ | refine Ze ?_ | refine Zf ?_ | refine Zo ?_ | refine ok_seq ?_ | refine ok_reg ?_ | refine Zp ?_ | refine ok_block ?_
          | refine ok_skip ?_ | refine x_normal_then ?_ | refine x_normal_block ?_
        exact ⟨(m + 1, z ++ B [32, 44] ++ codeT y), ⟨hlt3, nx_of j2⟩, by (try simp only); omega, lowR_mk [(16, 18)] rfl rfl rfl ⟨⟨rfl, rfl⟩, ⟨rfl, rfl⟩, ⟨rfl, rfl⟩, ⟨rfl, rfl⟩, ⟨rfl, rfl⟩, ⟨rfl, rfl⟩, ⟨rfl, rfl⟩, ⟨rfl, rfl⟩, ⟨rfl, rfl⟩, ⟨rfl, rfl⟩, ⟨rfl, rfl⟩, ⟨rfl, rfl⟩, ⟨rfl, rfl⟩, ⟨rfl, rfl⟩, trivial⟩ ⟨⟨rfl, rfl⟩, ⟨rfl, rfl⟩, ⟨renO_row rfl (byteRows_ren _ _), blt_lt rfl, byteRows_low _ _⟩, ⟨rfl, rfl⟩, ⟨rfl, rfl⟩, trivial⟩⟩
      · have e0 : decide (0 < (m : Int)) = false := decide_eq_false (by omega)
        rw [if_neg hm0] at j2
        simp only [ba_assoc, nil_ba] at j2
        repeat' first
          | refine Z1 ?_ | refine Z2 ?_ | refine Z3 ?_ | refine Z5 ?_ | refine Ym (codes_ok (i := 1) (r := 2) (h := 16) (t := z) rfl rfl y hyv hyl2 (sz_of j2 hf)) ?_ | refine Ze ?_ | refine Zf ?_ | refine Zo ?_ | refine ok_seq ?_
          | refine ok_reg ?_ | refine Zp ?_ | refine Zq ?_ | refine ok_block ?_ | refine ok_skip ?_ | refine x_normal_then ?_ | refine x_normal_block ?_
        exact ⟨(m + 1, z ++ codeT y), ⟨hlt3, nx_of j2⟩, by (try simp only); omega, lowR_mk [(16, 17)] rfl rfl rfl ⟨⟨rfl, rfl⟩, ⟨rfl, rfl⟩, ⟨rfl, rfl⟩, ⟨rfl, rfl⟩, ⟨rfl, rfl⟩, ⟨rfl, rfl⟩, ⟨rfl, rfl⟩, ⟨rfl, rfl⟩, ⟨rfl, rfl⟩, ⟨rfl, rfl⟩, ⟨rfl, rfl⟩, ⟨rfl, rfl⟩, ⟨rfl, rfl⟩, ⟨rfl, rfl⟩, trivial⟩ ⟨⟨rfl, rfl⟩, ⟨rfl, rfl⟩, ⟨renO_row rfl (byteRows_ren _ _), blt_lt rfl, byteRows_low _ _⟩, ⟨rfl, rfl⟩, ⟨rfl, rfl⟩, trivial⟩⟩
    have em : decide ((m : Int) < (s.args.length : Int)) = false := decide_eq_false (by omega)
    rw [List.drop_eq_nil_of_le (by omega)] at j2
    simp only [argsT, nil_ba] at j2
    obtain ⟨hz4, j5⟩ := hnl j2
    repeat' first
      | refine Z1 ?_ | refine Z2 ?_ | refine Z3 ?_ | refine Z5 ?_ | refine Ym (write_ok (i := 1) (r := 2) (h := 16) (t := z) rfl rfl (B [10]) hz4) ?_ | refine Zf ?_ | refine Zo ?_ | refine ok_seq ?_ | refine ok_reg ?_
      | refine Zq ?_ | refine ok_exit ?_ | refine x_normal_then ?_ | refine x_exit_here ?_ | refine Zv ?_ | refine x_normal_block ?_
    exact ⟨(k + 1, z ++ B [10]), ⟨hlt2, j5⟩, by (try simp only); omega, lowR_mk [(11, 17)] rfl rfl rfl ⟨⟨rfl, rfl⟩, ⟨rfl, rfl⟩, ⟨rfl, rfl⟩, ⟨rfl, rfl⟩, ⟨rfl, rfl⟩, ⟨rfl, rfl⟩, ⟨rfl, rfl⟩, ⟨rfl, rfl⟩, ⟨rfl, rfl⟩, ⟨rfl, rfl⟩, trivial⟩ ⟨⟨rfl, rfl⟩, ⟨rfl, rfl⟩, ⟨renO_row rfl (byteRows_ren _ _), blt_lt rfl, byteRows_low _ _⟩, ⟨rfl, rfl⟩, trivial⟩⟩
  have d3 : decide (s.kind = 3) = false := decide_eq_false k3
  rw [if_neg k3] at j2
  by_cases k4 : s.kind = 4
  · have d4 : decide (s.kind = 4) = true := decide_eq_true k4
    rw [if_pos k4] at j2
    simp only [ba_assoc, hR5] at j2
    have hz := sz_of j2 hf
    have hz2 := hz
    unfold ifH at hz2
    simp only [ByteArray.size_append] at hz2
    obtain ⟨hz4, j5⟩ := hnl (nx_of j2)
    repeat' first
      | refine Z1 ?_ | refine Z2 ?_ | refine Z3 ?_ | refine Z5 ?_ | refine Ul (a := B [105, 102, 32]) (b := s.name) ?_ | refine Ym (write_ok (i := 1) (r := 2) (h := 11) (t := v) rfl rfl (ifH s) hz) ?_
      | refine Ym (write_ok (i := 1) (r := 2) (h := 13) (t := v ++ ifH s) rfl rfl (B [10]) hz4) ?_ | refine Ze ?_ | refine Zf ?_ | refine Zo ?_ | refine ok_seq ?_ | refine ok_reg ?_ | refine Zp ?_ | refine Zq ?_ | refine ok_block ?_
      | refine ok_skip ?_ | refine x_normal_then ?_ | refine x_normal_block ?_
    exact ⟨(k + 1, v ++ ifH s ++ B [10]), ⟨hlt2, j5⟩, by (try simp only); omega, lowR_mk [(11, 14)] rfl rfl rfl ⟨⟨rfl, rfl⟩, ⟨rfl, rfl⟩, ⟨rfl, rfl⟩, ⟨rfl, rfl⟩, ⟨rfl, rfl⟩, ⟨rfl, rfl⟩, ⟨rfl, rfl⟩, ⟨rfl, rfl⟩, ⟨rfl, rfl⟩, ⟨rfl, rfl⟩, trivial⟩ ⟨⟨rfl, rfl⟩, ⟨rfl, rfl⟩, ⟨renO_row rfl (byteRows_ren _ _), blt_lt rfl, byteRows_low _ _⟩, ⟨rfl, rfl⟩, trivial⟩⟩
  have d4 : decide (s.kind = 4) = false := decide_eq_false k4
  rw [if_neg k4] at j2
  by_cases k5 : s.kind = 5
  · have d5 : decide (s.kind = 5) = true := decide_eq_true k5
    rw [if_pos k5] at j2
    simp only [ba_assoc, hR5] at j2
    have hz := sz_of j2 hf
    obtain ⟨hz4, j5⟩ := hnl (nx_of j2)
    repeat' first
      | refine Z1 ?_ | refine Z2 ?_ | refine Z3 ?_ | refine Z5 ?_ | refine Ym (write_ok (i := 1) (r := 2) (h := 11) (t := v) rfl rfl (B [101, 108, 115, 101]) hz) ?_
      | refine Ym (write_ok (i := 1) (r := 2) (h := 13) (t := v ++ B [101, 108, 115, 101]) rfl rfl (B [10]) hz4) ?_ | refine Ze ?_ | refine Zf ?_ | refine Zo ?_ | refine ok_seq ?_ | refine ok_reg ?_ | refine Zp ?_ | refine Zq ?_
      | refine ok_block ?_ | refine ok_skip ?_ | refine x_normal_then ?_ | refine x_normal_block ?_
    exact ⟨(k + 1, v ++ B [101, 108, 115, 101] ++ B [10]), ⟨hlt2, j5⟩, by (try simp only); omega, lowR_mk [(11, 14)] rfl rfl rfl ⟨⟨rfl, rfl⟩, ⟨rfl, rfl⟩, ⟨rfl, rfl⟩, ⟨rfl, rfl⟩, ⟨rfl, rfl⟩, ⟨rfl, rfl⟩, ⟨rfl, rfl⟩, ⟨rfl, rfl⟩, ⟨rfl, rfl⟩, ⟨rfl, rfl⟩, trivial⟩ ⟨⟨rfl, rfl⟩, ⟨rfl, rfl⟩, ⟨renO_row rfl (byteRows_ren _ _), blt_lt rfl, byteRows_low _ _⟩, ⟨rfl, rfl⟩, trivial⟩⟩
  have d5 : decide (s.kind = 5) = false := decide_eq_false k5
  rw [if_neg k5] at j2
  by_cases k6 : s.kind = 6
  · have d6 : decide (s.kind = 6) = true := decide_eq_true k6
    rw [if_pos k6] at j2
    simp only [ba_assoc, hR5] at j2
    have hz := sz_of j2 hf
    obtain ⟨hz4, j5⟩ := hnl (nx_of j2)
    repeat' first
      | refine Z1 ?_ | refine Z2 ?_ | refine Z3 ?_ | refine Z5 ?_ | refine Ym (write_ok (i := 1) (r := 2) (h := 11) (t := v) rfl rfl (B [101, 110, 100]) hz) ?_
      | refine Ym (write_ok (i := 1) (r := 2) (h := 13) (t := v ++ B [101, 110, 100]) rfl rfl (B [10]) hz4) ?_ | refine Ze ?_ | refine Zf ?_ | refine Zo ?_ | refine ok_seq ?_ | refine ok_reg ?_ | refine Zp ?_ | refine Zq ?_
      | refine ok_block ?_ | refine ok_skip ?_ | refine x_normal_then ?_ | refine x_normal_block ?_
    exact ⟨(k + 1, v ++ B [101, 110, 100] ++ B [10]), ⟨hlt2, j5⟩, by (try simp only); omega, lowR_mk [(11, 14)] rfl rfl rfl ⟨⟨rfl, rfl⟩, ⟨rfl, rfl⟩, ⟨rfl, rfl⟩, ⟨rfl, rfl⟩, ⟨rfl, rfl⟩, ⟨rfl, rfl⟩, ⟨rfl, rfl⟩, ⟨rfl, rfl⟩, ⟨rfl, rfl⟩, ⟨rfl, rfl⟩, trivial⟩ ⟨⟨rfl, rfl⟩, ⟨rfl, rfl⟩, ⟨renO_row rfl (byteRows_ren _ _), blt_lt rfl, byteRows_low _ _⟩, ⟨rfl, rfl⟩, trivial⟩⟩
  have d6 : decide (s.kind = 6) = false := decide_eq_false k6
  rw [if_neg k6] at j2
  simp only [ba_assoc, nil_ba, hR5] at j2
  obtain ⟨hz4, j5⟩ := hnl j2
  repeat' first
    | refine Z1 ?_ | refine Z2 ?_ | refine Z3 ?_ | refine Z5 ?_ | refine Ym (write_ok (i := 1) (r := 2) (h := 11) (t := v) rfl rfl (B [10]) hz4) ?_ | refine Ze ?_ | refine Zf ?_ | refine Zo ?_ | refine ok_seq ?_ | refine ok_reg ?_
    | refine Zp ?_ | refine Zq ?_ | refine ok_block ?_ | refine ok_skip ?_ | refine x_normal_then ?_ | refine x_normal_block ?_
  exact ⟨(k + 1, v ++ B [10]), ⟨hlt2, j5⟩, by (try simp only); omega, lowR_mk [(11, 13)] rfl rfl rfl ⟨⟨rfl, rfl⟩, ⟨rfl, rfl⟩, ⟨rfl, rfl⟩, ⟨rfl, rfl⟩, ⟨rfl, rfl⟩, ⟨rfl, rfl⟩, ⟨rfl, rfl⟩, ⟨rfl, rfl⟩, ⟨rfl, rfl⟩, ⟨rfl, rfl⟩, trivial⟩ ⟨⟨rfl, rfl⟩, ⟨rfl, rfl⟩, ⟨renO_row rfl (byteRows_ren _ _), blt_lt rfl, byteRows_low _ _⟩, ⟨rfl, rfl⟩, trivial⟩⟩
end Go.Pm
