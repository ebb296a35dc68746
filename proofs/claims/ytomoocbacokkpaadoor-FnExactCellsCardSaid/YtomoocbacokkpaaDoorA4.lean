/- The data of the source language, and how they stand for rows of cells. -/
import Derived.Test.YtomoocbacokkpaaDoorA2
import Derived.Test.YtomoocbacokkpaaDoorA3
set_option linter.unusedVariables false
namespace Go.Pm
structure Itm where
  op : Int
  val : Int
  name : ByteArray
structure Cnd where
  name : ByteArray
  on : Bool
structure Vr where
  name : ByteArray
  type : Int
  clock : List Cnd
structure Eqn where
  lhs : List ByteArray
  code : List Itm
  call : ByteArray
  args : List (List Itm)
structure Nod where
  name : ByteArray
  ins : List Vr
  outs : List Vr
  vars : List Vr
  eqs : List Eqn
def eStr (s : ByteArray) : List D := [.s (.string s)]
def eItm (x : Itm) : List D := [.s (.int .i64 x.op), .s (.int .i64 x.val), .s (.string x.name)]
def eItms (l : List Itm) : List D := [.im (l.map eItm)]
def eCnd (x : Cnd) : List D := [.s (.string x.name), .s (.bool x.on)]
def eVr (x : Vr) : List D := [.s (.string x.name), .s (.int .i64 x.type), .im (x.clock.map eCnd)]
def eEqn (x : Eqn) : List D := [.im (x.lhs.map eStr), .im (x.code.map eItm), .s (.string x.call), .im (x.args.map eItms)]
def eNod (x : Nod) : List D := [.s (.string x.name), .im (x.ins.map eVr), .im (x.outs.map eVr), .im (x.vars.map eVr), .im (x.eqs.map eEqn)]
/-- Weights, as the laws count them. -/
def wL {α : Type} (w : α → Nat) (l : List α) : Nat := l.length + (l.map w).sum
def wStr (s : ByteArray) : Nat := s.size
def wItm (x : Itm) : Nat := x.name.size
def wCnd (x : Cnd) : Nat := x.name.size
def wVr (x : Vr) : Nat := x.name.size + wL wCnd x.clock
def wEqn (x : Eqn) : Nat := wL wStr x.lhs + wL wItm x.code + x.call.size + wL (wL wItm) x.args
def wNod (x : Nod) : Nat := x.name.size + wL wVr x.ins + wL wVr x.outs + wL wVr x.vars + wL wEqn x.eqs
/-- Nothing is longer than a length can be. -/
def mx : Nat := 9223372036854775807
def dL {α : Type} (p : α → Prop) (l : List α) : Prop := l.length ≤ mx ∧ ∀ x ∈ l, p x
def dStr (s : ByteArray) : Prop := s.size ≤ mx
def dItm (x : Itm) : Prop := x.name.size ≤ mx
def dCnd (x : Cnd) : Prop := x.name.size ≤ mx
def dVr (x : Vr) : Prop := x.name.size ≤ mx ∧ dL dCnd x.clock
def dEqn (x : Eqn) : Prop := dL dStr x.lhs ∧ dL dItm x.code ∧ x.call.size ≤ mx ∧ dL (dL dItm) x.args
def dNod (x : Nod) : Prop := x.name.size ≤ mx ∧ dL dVr x.ins ∧ dL dVr x.outs ∧ dL dVr x.vars ∧ dL dEqn x.eqs
/-- What is left of a budget, or -1. -/
def subI (left : Int) (n : Nat) : Int := if left < n then -1 else left - n
theorem subI_neg {left : Int} {n : Nat} (h : subI left n < 0) : left < n ∧ subI left n = -1 := by unfold subI at h ⊢; split at h <;> (first | (rename_i h1; exact ⟨h1, if_pos h1⟩) | omega)
theorem subI_pos {left : Int} {n : Nat} (h : ¬ subI left n < 0) (h0 : 0 ≤ left) : (n : Int) ≤ left ∧ subI left n = left - n := by unfold subI at h ⊢; split at h <;> (first | (rename_i h1; exact ⟨by omega, if_neg h1⟩) | omega)
theorem subI_over {left : Int} {n : Nat} (h : left < n) : subI left n = -1 := if_pos h
theorem subI_in {left : Int} {n : Nat} (h : (n : Int) ≤ left) : subI left n = left - n := if_neg (by omega)
theorem subI_add {left : Int} {n m : Nat} (h : (n : Int) ≤ left) : subI (left - n) m = subI left (n + m) := by unfold subI; split <;> split <;> omega
end Go.Pm
/- The data of machines, and how they stand for rows of cells. -/
set_option linter.unusedVariables false
namespace Go.Pm
structure Slt where
  name : ByteArray
  type : Int
structure Sm where
  kind : Int
  name : ByteArray
  pos : Int
  outs : List ByteArray
  code : List Itm
  args : List (List Itm)
structure Cls where
  name : ByteArray
  ins : List Slt
  outs : List Slt
  locs : List ByteArray
  mems : List Int
  insts : List Int
  body : List Sm
def eNum (n : Int) : List D := [.s (.int .i64 n)]
def eSlt (x : Slt) : List D := [.s (.string x.name), .s (.int .i64 x.type)]
def eSm (x : Sm) : List D := [.s (.int .i64 x.kind), .s (.string x.name), .s (.int .i64 x.pos), .im (x.outs.map eStr), .im (x.code.map eItm), .im (x.args.map eItms)]
def eCls (x : Cls) : List D := [.s (.string x.name), .im (x.ins.map eSlt), .im (x.outs.map eSlt), .im (x.locs.map eStr), .im (x.mems.map eNum), .im (x.insts.map eNum), .im (x.body.map eSm)]
def wNum0 (_ : Int) : Nat := 0
theorem wNum0_sum : ∀ l : List Int, (l.map wNum0).sum = 0
  | [] => rfl
  | x :: l => by simp only [List.map_cons, List.sum_cons, wNum0_sum l, wNum0]
def wSlt (x : Slt) : Nat := x.name.size
def wSm (x : Sm) : Nat := x.name.size + wL wStr x.outs + wL wItm x.code + wL (wL wItm) x.args
def wCls (x : Cls) : Nat := x.name.size + wL wSlt x.ins + wL wSlt x.outs + wL wStr x.locs + wL wNum0 x.mems + wL wNum0 x.insts + wL wSm x.body
def dNums (l : List Int) : Prop := l.length ≤ mx
def dSlt (x : Slt) : Prop := x.name.size ≤ mx
def dSm (x : Sm) : Prop := x.name.size ≤ mx ∧ dL dStr x.outs ∧ dL dItm x.code ∧ dL (dL dItm) x.args
def dCls (x : Cls) : Prop := x.name.size ≤ mx ∧ dL dSlt x.ins ∧ dL dSlt x.outs ∧ dL dStr x.locs ∧ dNums x.mems ∧ dNums x.insts ∧ dL dSm x.body
end Go.Pm
/- Forests of statements: what grow makes of a flat list. -/
set_option linter.unusedVariables false
set_option linter.unusedSimpArgs false
namespace Go.Pm
inductive Br where
  | nd (s : Sm) (yes no : List Br)
mutual
/-- A branch, behind a pointer. -/
def eBr : Br → List D
  | .nd s yes no => [.s (.int .i64 s.kind), .s (.string s.name), .s (.int .i64 s.pos), .im (s.outs.map eStr), .im (s.code.map eItm), .im (s.args.map eItms), .im (eBrs yes), .im (eBrs no)]
def eBrs : List Br → List (List D)
  | [] => []
  | b :: l => [.ip (eBr b) 0] :: eBrs l
end
def eBrP (b : Br) : List D := [.ip (eBr b) 0]
theorem eBrs_map : ∀ l : List Br, eBrs l = l.map eBrP
  | [] => rfl
  | b :: l => by simp only [eBrs, List.map_cons, eBrs_map l]; rfl
structure Fr where
  s : Sm
  els : Bool
  yes : List Br
  no : List Br
/-- A branch more, in the innermost open one. -/
def putF (b : Br) : List Fr → List Br → List Fr × List Br
  | [], R => ([], R ++ [b])
  | f :: st, R => ((if f.els then { f with no := f.no ++ [b] } else { f with yes := f.yes ++ [b] }) :: st, R)
def growGo : List Sm → List Fr → List Br → Option (List Br)
  | [], [], R => some R
  | [], _ :: _, _ => none
  | s :: l, st, R =>
    if s.kind = 4 then growGo l (⟨s, false, [], []⟩ :: st) R
    else if s.kind = 5 then
      match st with
      | [] => none
      | f :: st' => if f.els then none else growGo l ({ f with els := true } :: st') R
    else if s.kind = 6 then
      match st with
      | [] => none
      | f :: st' => if f.els then growGo l (putF (.nd f.s f.yes f.no) st' R).1 (putF (.nd f.s f.yes f.no) st' R).2 else none
    else growGo l (putF (.nd s [] []) st R).1 (putF (.nd s [] []) st R).2
def growI (l : List Sm) : Option (List Br) := growGo l [] []

/-! ### how forests lie in memory -/
structure Gn where
  s : Sm
  y : Nat
  hy : Nat
  n : Nat
  hn : Nat
  yes : List Nat
  no : List Nat
mutual
/-- Below the node a, of closed nodes, lies the tree. -/
def trB (nd : Nat → Option Gn) (op : Nat → Bool) : Br → Nat → Prop
  | .nd s ys ns, a => ∃ g, nd a = some g ∧ op a = false ∧ g.s = s ∧ trL nd op ys g.yes ∧ trL nd op ns g.no
def trL (nd : Nat → Option Gn) (op : Nat → Bool) : List Br → List Nat → Prop
  | [], [] => True
  | b :: bs, a :: l => trB nd op b a ∧ trL nd op bs l
  | _, _ => False
end
mutual
theorem trB_mono {nd nd' : Nat → Option Gn} {op op' : Nat → Bool} (h : ∀ b g, nd b = some g → op b = false → nd' b = some g ∧ op' b = false) : ∀ (t : Br) (a : Nat), trB nd op t a → trB nd' op' t a
  | .nd s ys ns, a, ht => by
    simp only [trB] at ht ⊢
    obtain ⟨g, h1, h2, h3, h4, h5⟩ := ht
    obtain ⟨h6, h7⟩ := h a g h1 h2
    exact ⟨g, h6, h7, h3, trL_mono h ys g.yes h4, trL_mono h ns g.no h5⟩
theorem trL_mono {nd nd' : Nat → Option Gn} {op op' : Nat → Bool} (h : ∀ b g, nd b = some g → op b = false → nd' b = some g ∧ op' b = false) : ∀ (ts : List Br) (l : List Nat), trL nd op ts l → trL nd' op' ts l
  | [], [], _ => by simp [trL]
  | b :: bs, a :: l, ht => by
    simp only [trL] at ht ⊢
    exact ⟨trB_mono h b a ht.1, trL_mono h bs l ht.2⟩
  | [], _ :: _, ht => by simp [trL] at ht
  | _ :: _, [], ht => by simp [trL] at ht
end
theorem trL_push {nd : Nat → Option Gn} {op : Nat → Bool} {t : Br} {a : Nat} (ht : trB nd op t a) : ∀ (ts : List Br) (l : List Nat), trL nd op ts l → trL nd op (ts ++ [t]) (l ++ [a])
  | [], [], _ => by simp [trL, ht]
  | b :: bs, c :: l, h => by
    simp only [trL] at h
    simp only [List.cons_append, trL]
    exact ⟨h.1, trL_push ht bs l h.2⟩
  | [], _ :: _, h => by simp [trL] at h
  | _ :: _, [], h => by simp [trL] at h
theorem trL_len {nd : Nat → Option Gn} {op : Nat → Bool} : ∀ (ts : List Br) (l : List Nat), trL nd op ts l → ts.length = l.length
  | [], [], _ => rfl
  | b :: bs, c :: l, h => by
    simp only [trL] at h
    simp [trL_len bs l h.2]
  | [], _ :: _, h => by simp [trL] at h
  | _ :: _, [], h => by simp [trL] at h

/-- An open node: its frame. -/
structure On where
  o : Nat
  a : Nat
  els : Bool
def frB (nd : Nat → Option Gn) (op : Nat → Bool) (f : Fr) (x : On) (yes no : List Nat) : Prop := ∃ g, nd x.a = some g ∧ op x.a = true ∧ g.s = f.s ∧ x.els = f.els ∧ g.yes = yes ∧ g.no = no
/-- The frames below an open node whose number is p. -/
def frP (nd : Nat → Option Gn) (op : Nat → Bool) : List Fr → List On → List Br → List Nat → Nat → Prop
  | [], [], R, cs, p => ∃ l, cs = l ++ [p] ∧ trL nd op R l
  | f :: fs, x :: st, R, cs, p => (∃ l m, frB nd op f x (if x.els then l else l ++ [p]) (if x.els then m ++ [p] else m) ∧ trL nd op f.yes l ∧ trL nd op f.no m) ∧ frP nd op fs st R cs x.a
  | _, _, _, _, _ => False
/-- The frames, the innermost first. -/
def frS (nd : Nat → Option Gn) (op : Nat → Bool) : List Fr → List On → List Br → List Nat → Prop
  | [], [], R, cs => trL nd op R cs
  | f :: fs, x :: st, R, cs => (∃ l m, frB nd op f x l m ∧ trL nd op f.yes l ∧ trL nd op f.no m) ∧ frP nd op fs st R cs x.a
  | _, _, _, _ => False
end Go.Pm
/- Forests, plainly: which lists of statements spell a forest, and where the parts of an If lie. -/
set_option linter.unusedVariables false
set_option linter.unusedSimpArgs false
namespace Go.Pm
/-- The list spells the forest. -/
inductive Spell : List Sm → List Br → Prop
  | nil : Spell [] []
  | leaf {s : Sm} {l : List Sm} {R : List Br} (h4 : s.kind ≠ 4) (h5 : s.kind ≠ 5) (h6 : s.kind ≠ 6) (h : Spell l R) : Spell (s :: l) (.nd s [] [] :: R)
  | cond {s e f : Sm} {y n l : List Sm} {Y N R : List Br} (h4 : s.kind = 4) (h5 : e.kind = 5) (h6 : f.kind = 6) (hy : Spell y Y) (hn : Spell n N) (h : Spell l R) : Spell (s :: (y ++ e :: (n ++ f :: l))) (.nd s Y N :: R)
theorem Spell.app {l m : List Sm} {R T : List Br} (h : Spell l R) (h' : Spell m T) : Spell (l ++ m) (R ++ T) := by
  induction h with
  | nil => exact h'
  | leaf h4 h5 h6 _ ih => exact .leaf h4 h5 h6 ih
  | cond h4 h5 h6 hy hn _ _ _ ih => have := Spell.cond h4 h5 h6 hy hn ih; simpa using this
def putFs : List Br → List Fr → List Br → List Fr × List Br
  | [], st, R => (st, R)
  | b :: bs, st, R => putFs bs (putF b st R).1 (putF b st R).2
theorem putFs_nil : ∀ (bs R : List Br), putFs bs [] R = ([], R ++ bs)
  | [], R => by simp [putFs]
  | b :: bs, R => by simp [putFs, putF, putFs_nil bs]
theorem putFs_yes (s : Sm) (n : List Br) (st : List Fr) (R : List Br) : ∀ (bs : List Br) (Y : List Br), putFs bs (⟨s, false, Y, n⟩ :: st) R = (⟨s, false, Y ++ bs, n⟩ :: st, R)
  | [], Y => by simp [putFs]
  | b :: bs, Y => by simp [putFs, putF, putFs_yes s n st R bs]
theorem putFs_no (s : Sm) (y : List Br) (st : List Fr) (R : List Br) : ∀ (bs : List Br) (N : List Br), putFs bs (⟨s, true, y, N⟩ :: st) R = (⟨s, true, y, N ++ bs⟩ :: st, R)
  | [], Y => by simp [putFs]
  | b :: bs, Y => by simp [putFs, putF, putFs_no s y st R bs]
theorem grow_if {s : Sm} (h : s.kind = 4) (l : List Sm) (st : List Fr) (R : List Br) : growGo (s :: l) st R = growGo l (⟨s, false, [], []⟩ :: st) R := by simp only [growGo]; rw [if_pos h]
theorem grow_else {s u : Sm} (h : s.kind = 5) (l : List Sm) (y n : List Br) (st : List Fr) (R : List Br) : growGo (s :: l) (⟨u, false, y, n⟩ :: st) R = growGo l (⟨u, true, y, n⟩ :: st) R := by
  simp only [growGo]; rw [if_neg (by omega), if_pos h]; rfl
theorem grow_end {s u : Sm} (h : s.kind = 6) (l : List Sm) (y n : List Br) (st : List Fr) (R : List Br) : growGo (s :: l) (⟨u, true, y, n⟩ :: st) R = growGo l (putF (.nd u y n) st R).1 (putF (.nd u y n) st R).2 := by
  simp only [growGo]; rw [if_neg (by omega), if_neg (by omega), if_pos h]; rfl
theorem spell_grow {l : List Sm} {T : List Br} (h : Spell l T) : ∀ (r : List Sm) (st : List Fr) (R : List Br), growGo (l ++ r) st R = growGo r (putFs T st R).1 (putFs T st R).2 := by
  induction h with
  | nil => intro r st R; rfl
  | leaf h4 h5 h6 _ ih =>
    intro r st R
    simp only [List.cons_append, growGo, h4, h5, h6, if_false, ih, putFs]
  | @cond s e f y n l Y N T h4 h5 h6 _ _ _ ihy ihn ih =>
    intro r st R
    have e1 : s :: (y ++ e :: (n ++ f :: l)) ++ r = s :: (y ++ (e :: (n ++ (f :: (l ++ r))))) := by simp
    rw [e1, grow_if h4, ihy, putFs_yes, List.nil_append, grow_else h5, ihn, putFs_no, List.nil_append, grow_end h6, ih]
    rfl
theorem spell_growI {l : List Sm} {T : List Br} (h : Spell l T) : growI l = some T := by
  have := spell_grow h [] [] []
  rw [List.append_nil] at this
  unfold growI
  rw [this, putFs_nil]
  rfl
/-- The list ends the open frames. -/
inductive Comp : List Sm → List Fr → List Br → List Br → Prop
  | done {l : List Sm} {R T : List Br} (h : Spell l T) : Comp l [] R (R ++ T)
  | yes {y l : List Sm} {Y R R' : List Br} {e : Sm} {f : Fr} {st : List Fr} (hf : f.els = false) (hy : Spell y Y) (he : e.kind = 5) (h : Comp l (⟨f.s, true, f.yes ++ Y, f.no⟩ :: st) R R') : Comp (y ++ e :: l) (f :: st) R R'
  | no {n l : List Sm} {N R R' : List Br} {e : Sm} {f : Fr} {st : List Fr} (hf : f.els = true) (hn : Spell n N) (he : e.kind = 6) (h : Comp l (putF (.nd f.s f.yes (f.no ++ N)) st R).1 (putF (.nd f.s f.yes (f.no ++ N)) st R).2 R') : Comp (n ++ e :: l) (f :: st) R R'
theorem comp_push {u l : List Sm} {b : Br} (hu : ∀ {m : List Sm} {T : List Br}, Spell m T → Spell (u ++ m) (b :: T)) {st : List Fr} {R R' : List Br} (h : Comp l (putF b st R).1 (putF b st R).2 R') : Comp (u ++ l) st R R' := by
  cases st with
  | nil =>
    simp only [putF] at h
    cases h with
    | done h => rw [List.append_assoc]; exact .done (hu h)
  | cons f st =>
    simp only [putF] at h
    cases hf : f.els with
    | false =>
      simp only [hf, Bool.false_eq_true, if_false] at h
      cases h with
      | yes hf' hy he h =>
        rw [← List.append_assoc]
        refine .yes hf (hu hy) he ?_
        simpa using h
      | no hf' => simp [hf] at hf'
    | true =>
      simp only [hf, if_true] at h
      cases h with
      | yes hf' => simp [hf] at hf'
      | no hf' hn he h =>
        rw [← List.append_assoc]
        refine .no hf (hu hn) he ?_
        simpa using h
theorem grow_comp : ∀ (l : List Sm) (st : List Fr) (R R' : List Br), growGo l st R = some R' → Comp l st R R'
  | [], [], R, R', e => by
    simp only [growGo, Option.some.injEq] at e
    subst e
    have := Comp.done (R := R) Spell.nil
    simpa using this
  | [], _ :: _, R, R', e => by simp [growGo] at e
  | s :: l, st, R, R', e => by
    simp only [growGo] at e
    split at e
    · rename_i h4
      have := grow_comp l _ R R' e
      cases this with
      | @yes y l1 Y _ _ t1 _ _ hf hy he h =>
        cases h with
        | @no n l2 N _ _ t2 _ _ hf2 hn he2 h =>
          have key := comp_push (u := s :: (y ++ t1 :: (n ++ [t2]))) (b := .nd s Y N) (st := st) (R := R) (R' := R') (l := l2) (fun {m T} hm => by
            have := Spell.cond h4 he he2 hy hn hm
            simpa using this) (by simpa using h)
          simpa using key
        | yes hf' => cases hf'
      | no hf => cases hf
    · rename_i h4
      split at e
      · rename_i h5
        cases st with
        | nil => cases e
        | cons f st' =>
          dsimp only at e
          split at e
          · cases e
          · rename_i hf
            have := grow_comp l _ R R' e
            have := Comp.yes (f := f) (by simpa using hf) Spell.nil h5 (by simpa using this)
            simpa using this
      · rename_i h5
        split at e
        · rename_i h6
          cases st with
          | nil => cases e
          | cons f st' =>
            dsimp only at e
            split at e
            · rename_i hf
              have := grow_comp l _ _ R' e
              have := Comp.no (f := f) hf Spell.nil h6 (by simpa using this)
              simpa using this
            · cases e
        · rename_i h6
          have := grow_comp l _ _ R' e
          exact comp_push (u := [s]) (fun hm => Spell.leaf h4 h5 h6 hm) this
theorem comp_nil {l : List Sm} {R X : List Br} (h : Comp l [] R X) : ∃ T, X = R ++ T ∧ Spell l T := by
  cases h with
  | done h => exact ⟨_, rfl, h⟩
theorem grow_spell {l : List Sm} {T : List Br} (h : growI l = some T) : Spell l T := by
  obtain ⟨T', rfl, h'⟩ := comp_nil (grow_comp l [] [] T h)
  exact h'
theorem growI_iff {l : List Sm} {T : List Br} : growI l = some T ↔ Spell l T := ⟨grow_spell, spell_growI⟩

/-! ### where the Else and the End lie -/
def partsGo : List Sm → Nat → Int → Int → Int × Int
  | [], _, _, _ => (-1, -1)
  | s :: l, j, d, o =>
    if s.kind = 4 then partsGo l (j + 1) (d + 1) o
    else if s.kind = 5 then (if d = 1 then (if 0 ≤ o then (-1, -1) else partsGo l (j + 1) d j) else partsGo l (j + 1) d o)
    else if s.kind = 6 then (if d - 1 = 0 then (o, j) else partsGo l (j + 1) (d - 1) o)
    else partsGo l (j + 1) d o
def partsS (l : List Sm) (i : Nat) : Int × Int := partsGo (l.drop i) i 0 (-1)
theorem go_if {s : Sm} (h : s.kind = 4) (l : List Sm) (j : Nat) (d o : Int) : partsGo (s :: l) j d o = partsGo l (j + 1) (d + 1) o := by simp only [partsGo]; rw [if_pos h]
theorem go_else {s : Sm} (h : s.kind = 5) (l : List Sm) (j : Nat) {d : Int} (hd : d ≠ 1) (o : Int) : partsGo (s :: l) j d o = partsGo l (j + 1) d o := by simp only [partsGo]; rw [if_neg (by omega), if_pos h, if_neg hd]
theorem go_end {s : Sm} (h : s.kind = 6) (l : List Sm) (j : Nat) {d : Int} (hd : d - 1 ≠ 0) (o : Int) : partsGo (s :: l) j d o = partsGo l (j + 1) (d - 1) o := by simp only [partsGo]; rw [if_neg (by omega), if_neg (by omega), if_pos h, if_neg hd]
theorem parts_spell {l : List Sm} {T : List Br} (h : Spell l T) : ∀ (r : List Sm) (j : Nat) (d o : Int), 1 ≤ d → partsGo (l ++ r) j d o = partsGo r (j + l.length) d o := by
  induction h with
  | nil => intro r j d o _; rfl
  | leaf h4 h5 h6 _ ih =>
    intro r j d o hd
    simp only [List.cons_append, partsGo, h4, h5, h6, if_false, ih _ _ _ _ hd, List.length_cons]
    congr 1; omega
  | @cond s e f y n l Y N T h4 h5 h6 _ _ _ ihy ihn ih =>
    intro r j d o hd
    have e1 : s :: (y ++ e :: (n ++ f :: l)) ++ r = s :: (y ++ (e :: (n ++ (f :: (l ++ r))))) := by simp
    rw [e1]
    rw [go_if h4, ihy _ _ _ _ (by omega), go_else h5 _ _ (by omega), ihn _ _ _ _ (by omega), go_end h6 _ _ (by omega), ih _ _ _ _ (by omega)]
    simp only [List.length_cons, List.length_append]
    congr 1 <;> omega
theorem parts_if {s e f : Sm} {y n : List Sm} {Y N : List Br} (h4 : s.kind = 4) (h5 : e.kind = 5) (h6 : f.kind = 6) (hy : Spell y Y) (hn : Spell n N) (r : List Sm) (j : Nat) :
    partsGo (s :: (y ++ e :: (n ++ f :: r))) j 0 (-1) = (((j + 1 + y.length : Nat) : Int), ((j + 1 + y.length + 1 + n.length : Nat) : Int)) := by
  rw [go_if h4, parts_spell hy _ _ _ _ (by omega)]
  have h1 : ∀ (m : List Sm) (j : Nat), partsGo (e :: m) j (0 + 1) (-1) = partsGo m (j + 1) 1 j := by
    intro m j
    simp only [partsGo]
    rw [if_neg (by omega), if_pos h5, if_pos (by omega), if_neg (by omega)]
    rfl
  rw [h1, parts_spell hn _ _ _ _ (by omega)]
  simp only [partsGo]
  rw [if_neg (by omega), if_neg (by omega), if_pos h6, if_pos (by omega)]
/-- What the answer tells of the list. -/
theorem parts_at : ∀ (l : List Sm) (j : Nat) (d o O E : Int), 1 ≤ d → partsGo l j d o = (O, E) → 0 ≤ E → (∃ q, E = ((j + q : Nat) : Int) ∧ ∃ f, l[q]? = some f ∧ f.kind = 6 ∧ (O = o ∨ ∃ p, p < q ∧ O = ((j + p : Nat) : Int) ∧ ∃ e, l[p]? = some e ∧ e.kind = 5))
  | [], j, d, o, O, E, _, h, hE => by simp only [partsGo, Prod.mk.injEq] at h; omega
  | s :: l, j, d, o, O, E, hd, h, hE => by
    have up : ∀ {d' o' : Int}, 1 ≤ d' → partsGo l (j + 1) d' o' = (O, E) → (o' = o ∨ (o' = (j : Int) ∧ s.kind = 5)) → ∃ q, E = ((j + q : Nat) : Int) ∧ ∃ f, (s :: l)[q]? = some f ∧ f.kind = 6 ∧ (O = o ∨ ∃ p, p < q ∧ O = ((j + p : Nat) : Int) ∧ ∃ e, (s :: l)[p]? = some e ∧ e.kind = 5) := by
      intro d' o' hd' h' ho
      obtain ⟨q, h1, f, h2, h3, h4⟩ := parts_at l (j + 1) d' o' O E hd' h' hE
      refine ⟨q + 1, by omega, f, by simpa using h2, h3, ?_⟩
      rcases h4 with h4 | ⟨p, h5, h6, e, h7, h8⟩
      · rcases ho with ho | ⟨ho, hs⟩
        · exact .inl (by omega)
        · exact .inr ⟨0, by omega, by omega, s, rfl, hs⟩
      · exact .inr ⟨p + 1, by omega, by omega, e, by simpa using h7, h8⟩
    simp only [partsGo] at h
    split at h
    · exact up (by omega) h (.inl rfl)
    · split at h
      · rename_i h5
        split at h
        · split at h
          · simp only [Prod.mk.injEq] at h; omega
          · exact up hd h (.inr ⟨rfl, h5⟩)
        · exact up hd h (.inl rfl)
      · split at h
        · rename_i h6
          split at h
          · simp only [Prod.mk.injEq] at h
            exact ⟨0, by omega, s, rfl, h6, .inl h.1.symm⟩
          · exact up (by omega) h (.inl rfl)
        · exact up hd h (.inl rfl)
end Go.Pm
/- Forests, plainly: the tree of a list that begins with an If; how deep a forest is. -/
set_option linter.unusedVariables false
set_option linter.unusedSimpArgs false
namespace Go.Pm
theorem if_inv {s : Sm} {r : List Sm} {T : List Br} (h4 : s.kind = 4) (h : Spell (s :: r) T) : ∃ y e n f r2 Y N R, r = y ++ e :: (n ++ f :: r2) ∧ e.kind = 5 ∧ f.kind = 6 ∧ Spell y Y ∧ Spell n N ∧ Spell r2 R ∧ T = .nd s Y N :: R := by
  cases h with
  | leaf h => exact absurd h4 h
  | cond h4 h5 h6 hy hn h => exact ⟨_, _, _, _, _, _, _, _, rfl, h5, h6, hy, hn, h, rfl⟩
theorem leaf_inv {s : Sm} {r : List Sm} {T : List Br} (h4 : s.kind ≠ 4) (h : Spell (s :: r) T) : s.kind ≠ 5 ∧ s.kind ≠ 6 ∧ ∃ R, Spell r R ∧ T = .nd s [] [] :: R := by
  cases h with
  | leaf h4 h5 h6 h => exact ⟨h5, h6, _, h, rfl⟩
  | cond h => exact absurd h h4
theorem growI_nil : growI [] = some [] := rfl
theorem growI_leaf {s : Sm} {r : List Sm} (h4 : s.kind ≠ 4) (h5 : s.kind ≠ 5) (h6 : s.kind ≠ 6) : growI (s :: r) = (growI r).map (.nd s [] [] :: ·) := by
  cases h : growI r with
  | none =>
    rw [Option.map_none]
    cases h' : growI (s :: r) with
    | none => rfl
    | some T =>
      obtain ⟨_, _, R, h1, _⟩ := leaf_inv h4 (grow_spell h')
      rw [spell_growI h1] at h; cases h
  | some R => exact spell_growI (.leaf h4 h5 h6 (grow_spell h))
theorem growI_bad {s : Sm} {r : List Sm} (h : s.kind = 5 ∨ s.kind = 6) : growI (s :: r) = none := by
  cases h' : growI (s :: r) with
  | none => rfl
  | some T => obtain ⟨h5, h6, _⟩ := leaf_inv (by omega) (grow_spell h'); omega
theorem if_none {s : Sm} {r : List Sm} {j : Nat} {O E : Int} (h4 : s.kind = 4) (hp : partsGo (s :: r) j 0 (-1) = (O, E)) (hb : O < 0 ∨ E < 0) : growI (s :: r) = none := by
  cases h' : growI (s :: r) with
  | none => rfl
  | some T =>
    obtain ⟨y, e, n, f, r2, Y, N, R, rfl, h5, h6, hy, hn, _⟩ := if_inv h4 (grow_spell h')
    rw [parts_if h4 h5 h6 hy hn, Prod.mk.injEq] at hp
    omega
theorem if_cut {s : Sm} {r : List Sm} {j : Nat} {O E : Int} (h4 : s.kind = 4) (hp : partsGo (s :: r) j 0 (-1) = (O, E)) (hO : 0 ≤ O) (hE : 0 ≤ E) :
    ∃ y e n f r2, r = y ++ e :: (n ++ f :: r2) ∧ e.kind = 5 ∧ f.kind = 6 ∧ O = ((j + 1 + y.length : Nat) : Int) ∧ E = ((j + 1 + y.length + 1 + n.length : Nat) : Int) := by
  rw [go_if h4] at hp
  obtain ⟨q, h1, f, h2, h3, h⟩ := parts_at r (j + 1) _ _ O E (by omega) hp hE
  rcases h with h | ⟨p, hpq, h5, e, h6, h7⟩
  · omega
  obtain ⟨d1, l1⟩ : r.drop q = f :: r.drop (q + 1) ∧ q < r.length := by
    obtain ⟨hl, he⟩ := List.getElem?_eq_some_iff.1 h2
    exact ⟨by rw [List.drop_eq_getElem_cons hl, he], hl⟩
  obtain ⟨d2, l2⟩ : r.drop p = e :: r.drop (p + 1) ∧ p < r.length := by
    obtain ⟨hl, he⟩ := List.getElem?_eq_some_iff.1 h6
    exact ⟨by rw [List.drop_eq_getElem_cons hl, he], hl⟩
  have d3 : (r.drop (p + 1)).drop (q - p - 1) = f :: r.drop (q + 1) := by rw [List.drop_drop, ← d1]; congr 1; omega
  refine ⟨r.take p, e, (r.drop (p + 1)).take (q - p - 1), f, r.drop (q + 1), ?_, h7, h3, ?_, ?_⟩
  · rw [← d3, List.take_append_drop, ← d2, List.take_append_drop]
  · rw [List.length_take, Nat.min_eq_left (by omega)]; exact h5
  · rw [List.length_take, Nat.min_eq_left (by omega), List.length_take, List.length_drop, Nat.min_eq_left (by omega)]; omega
theorem growI_if {s e f : Sm} {y n r2 : List Sm} {j : Nat} (h4 : s.kind = 4) (h5 : e.kind = 5) (h6 : f.kind = 6) (hp : partsGo (s :: (y ++ e :: (n ++ f :: r2))) j 0 (-1) = (((j + 1 + y.length : Nat) : Int), ((j + 1 + y.length + 1 + n.length : Nat) : Int))) :
    growI (s :: (y ++ e :: (n ++ f :: r2))) = (growI y).bind fun Y => (growI n).bind fun N => (growI r2).map fun R => .nd s Y N :: R := by
  cases h' : growI (s :: (y ++ e :: (n ++ f :: r2))) with
  | some T =>
    obtain ⟨y', e', n', f', r', Y, N, R, he, h5', h6', hy, hn, hr, rfl⟩ := if_inv h4 (grow_spell h')
    rw [he, parts_if h4 h5' h6' hy hn, Prod.mk.injEq] at hp
    obtain ⟨rfl, he2⟩ := List.append_inj he (by omega)
    rw [List.cons.injEq] at he2
    obtain ⟨rfl, he2⟩ := he2
    obtain ⟨rfl, he3⟩ := List.append_inj he2 (by omega)
    rw [List.cons.injEq] at he3
    obtain ⟨rfl, rfl⟩ := he3
    rw [spell_growI hy, spell_growI hn, spell_growI hr]; rfl
  | none =>
    cases hy : growI y with
    | none => rfl
    | some Y =>
      cases hn : growI n with
      | none => rfl
      | some N =>
        cases hr : growI r2 with
        | none => rfl
        | some R => rw [spell_growI (.cond h4 h5 h6 (grow_spell hy) (grow_spell hn) (grow_spell hr))] at h'; cases h'
theorem spell_nil {l : List Sm} {T : List Br} (h : Spell l T) : l = [] ↔ T = [] := by cases h <;> simp
mutual
def deepB : Br → Int → Bool
  | .nd s Y N, d => if s.kind = 4 then (if (Y ≠ [] ∨ N ≠ []) ∧ 20 < d + 1 then false else deepL Y (d + 1) && deepL N (d + 1)) else true
def deepL : List Br → Int → Bool
  | [], _ => true
  | b :: R, d => deepB b d && deepL R d
end
def nestV (l : List Sm) (d : Int) : Bool := match growI l with | none => false | some R => deepL R d
theorem nestV_nil (d : Int) : nestV [] d = true := by simp [nestV, growI_nil, deepL]
theorem nestV_leaf {s : Sm} {r : List Sm} (h4 : s.kind ≠ 4) (h5 : s.kind ≠ 5) (h6 : s.kind ≠ 6) (d : Int) : nestV (s :: r) d = nestV r d := by
  unfold nestV
  rw [growI_leaf h4 h5 h6]
  cases growI r with
  | none => rfl
  | some R => simp [deepL, deepB, h4]
theorem nestV_bad {s : Sm} {r : List Sm} (h : s.kind = 5 ∨ s.kind = 6) (d : Int) : nestV (s :: r) d = false := by
  unfold nestV; rw [growI_bad h]
theorem nestV_none {s : Sm} {r : List Sm} {j : Nat} {O E : Int} (h4 : s.kind = 4) (hp : partsGo (s :: r) j 0 (-1) = (O, E)) (hb : O < 0 ∨ E < 0) (d : Int) : nestV (s :: r) d = false := by
  unfold nestV; rw [if_none h4 hp hb]
theorem nestV_if {s e f : Sm} {y n r2 : List Sm} {j : Nat} (h4 : s.kind = 4) (h5 : e.kind = 5) (h6 : f.kind = 6) (hp : partsGo (s :: (y ++ e :: (n ++ f :: r2))) j 0 (-1) = (((j + 1 + y.length : Nat) : Int), ((j + 1 + y.length + 1 + n.length : Nat) : Int))) (d : Int) :
    nestV (s :: (y ++ e :: (n ++ f :: r2))) d = if (0 < y.length ∨ 0 < n.length) ∧ 20 < d + 1 then false else nestV y (d + 1) && nestV n (d + 1) && nestV r2 d := by
  unfold nestV
  rw [growI_if h4 h5 h6 hp]
  cases hy : growI y with
  | none => simp
  | some Y =>
    cases hn : growI n with
    | none => simp
    | some N =>
      have e1 : (0 < y.length ↔ Y ≠ []) := by rw [List.length_pos_iff, Ne, spell_nil (grow_spell hy)]
      have e2 : (0 < n.length ↔ N ≠ []) := by rw [List.length_pos_iff, Ne, spell_nil (grow_spell hn)]
      cases hr : growI r2 with
      | none => simp
      | some R =>
        simp only [Option.bind_some, Option.map_some, deepL, deepB, h4, if_true, e1, e2]
        split
        · rfl
        · rfl
def withinAt (sw : Sm → ByteArray → Bool) (l : List Sm) (i : Nat) : Bool := match l[i]? with
  | none => true
  | some s => if s.kind = 4 then !(((l.drop i).take ((partsS l i).2.toNat - i)).any fun t => sw t s.name) else true
def withinS (sw : Sm → ByteArray → Bool) (l : List Sm) : Bool := (List.range l.length).all (withinAt sw l)
end Go.Pm
