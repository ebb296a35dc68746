/- The abstract machine, twelfth text: one operation at a time, by computation. What it gives is spelt out, so that terms stay small. -/
import Derived.Test.YtghgkmifoiokjaaDoorPm11
set_option linter.unusedVariables false
set_option linter.unusedSimpArgs false
namespace Go.Pm

/-- The value itself, spelt out. -/
def AV.force : AV → Option AV
  | .d x => some (.d x)
  | .agg cs => some (.agg cs)
  | .tup vs => some (.tup vs)
  | .ref i off => some (.ref i off)
  | .sl i v lo hi => some (.sl i v lo hi)
  | .ep i v k off => some (.ep i v k off)
  | .mp i => some (.mp i)
  | .it i => some (.it i)
  | .fn f caps => some (.fn f caps)
  | .ifc t x => some (.ifc t x)
  | .any => some .any
theorem force_eq {x y : AV} (h : x.force = some y) : x = y := by cases x <;> simpa [AV.force] using h

def natF : Nat → Option Nat
  | 0 => some 0
  | n + 1 => match natF n with | some m => some (m + 1) | none => none
theorem natF_eq : ∀ {n m : Nat}, natF n = some m → n = m
  | 0, m, h => by simpa [natF] using h
  | n + 1, m, h => by
    simp only [natF] at h
    split at h
    · rename_i k hk; simp only [Option.some.injEq] at h; rw [natF_eq hk, h]
    · simp at h

/-- The first n, spelt out. -/
def takeF {α : Type} : Nat → List α → Option (List α)
  | 0, _ => some []
  | _ + 1, [] => none
  | n + 1, x :: l => match takeF n l with | some m => some (x :: m) | none => none
theorem takeF_eq {α : Type} : ∀ {n : Nat} {l m : List α}, takeF n l = some m → l.take n = m ∧ n ≤ l.length
  | 0, l, m, h => by simp [takeF] at h; simp [h]
  | n + 1, [], m, h => by simp [takeF] at h
  | n + 1, x :: l, m, h => by
    simp only [takeF] at h
    split at h
    · rename_i k hk
      simp only [Option.some.injEq] at h
      obtain ⟨h1, h2⟩ := takeF_eq hk
      subst h
      exact ⟨by simp [h1], by simp; exact h2⟩
    · simp at h

def listF {α : Type} : List α → Option (List α)
  | [] => some []
  | x :: l => match listF l with | some m => some (x :: m) | none => none
theorem listF_eq {α : Type} : ∀ {l m : List α}, listF l = some m → l = m
  | [], m, h => by simpa [listF] using h
  | x :: l, m, h => by
    simp only [listF] at h
    split at h
    · rename_i k hk; simp only [Option.some.injEq] at h; rw [← h, listF_eq hk]
    · simp at h

def dropF {α : Type} : Nat → List α → Option (List α)
  | 0, l => some l
  | n + 1, [] => none
  | n + 1, _ :: l => dropF n l
theorem dropF_eq {α : Type} : ∀ {n : Nat} {l m : List α}, dropF n l = some m → l.drop n = m ∧ n ≤ l.length
  | 0, l, m, h => by simp [dropF] at h; simp [h]
  | n + 1, [], m, h => by simp [dropF] at h
  | n + 1, x :: l, m, h => by
    obtain ⟨h1, h2⟩ := dropF_eq (n := n) (l := l) h
    exact ⟨by simp [h1], by simp; exact h2⟩

def pieceF (ag : Bool) (cells : List AV) (off size : Nat) : Option AV :=
  match ag with
  | true => match dropF off cells with | some m => (match takeF size m with | some r => some (.agg r) | none => none) | none => none
  | false => match cells[off]? with | some x => x.force | none => none
theorem pieceF_eq {ag : Bool} {cells : List AV} {off size : Nat} {r : AV} (h : pieceF ag cells off size = some r) : piece ag cells off size = some r := by
  cases ag with
  | true =>
    simp only [pieceF] at h
    split at h
    · rename_i m hm
      split at h
      · rename_i r' hr
        obtain ⟨h1, h2⟩ := dropF_eq hm
        obtain ⟨h3, h4⟩ := takeF_eq hr
        simp only [Option.some.injEq] at h
        subst h
        subst h1
        simp only [List.length_drop] at h4
        simp only [piece, if_true, h3]
        rw [if_pos (by omega)]
      · simp at h
    · simp at h
  | false =>
    simp only [pieceF] at h
    split at h
    · rename_i x hx
      simp only [piece, hx, force_eq h]
      rfl
    · simp at h

/-- Cells with others written over them, spelt out. -/
def spliceF : List AV → Nat → List AV → Option (List AV)
  | l, 0, [] => listF l
  | [], 0, _ :: _ => none
  | _ :: l, 0, c :: cs => match spliceF l 0 cs with | some m => some (c :: m) | none => none
  | [], _ + 1, _ => none
  | x :: l, n + 1, cs => match spliceF l n cs with | some m => some (x :: m) | none => none
theorem spliceF_eq : ∀ {l : List AV} {n : Nat} {cs m : List AV}, spliceF l n cs = some m → splice l n cs = m ∧ n + cs.length ≤ l.length
  | l, 0, [], m, h => by simp only [spliceF] at h; simp [splice, listF_eq h]
  | [], 0, _ :: _, m, h => by simp [spliceF] at h
  | _ :: l, 0, c :: cs, m, h => by
    simp only [spliceF] at h
    split at h
    · rename_i k hk
      simp only [Option.some.injEq] at h
      obtain ⟨h1, h2⟩ := spliceF_eq hk
      subst h
      subst h1
      refine ⟨?_, by simp only [List.length_cons]; omega⟩
      simp only [splice, List.take_zero, List.nil_append, List.length_cons, Nat.zero_add, List.drop_succ_cons, List.cons_append]
    · simp at h
  | [], n + 1, cs, m, h => by simp [spliceF] at h
  | x :: l, n + 1, cs, m, h => by
    simp only [spliceF] at h
    split at h
    · rename_i k hk
      simp only [Option.some.injEq] at h
      obtain ⟨h1, h2⟩ := spliceF_eq hk
      subst h
      subst h1
      refine ⟨?_, by simp only [List.length_cons]; omega⟩
      simp only [splice, List.take_succ_cons, List.cons_append]
      rw [show n + 1 + cs.length = (n + cs.length) + 1 by omega, List.drop_succ_cons]
    · simp at h

def cellsF (x : AV) : Option (List AV) := match x.cells with | some cs => listF cs | none => none
theorem cellsF_eq {x : AV} {cs : List AV} (h : cellsF x = some cs) : x.cells = some cs := by
  simp only [cellsF] at h
  split at h
  · rename_i k hk; rw [hk, listF_eq h]
  · simp at h

/-- A struct out of its parts, spelt out. -/
def fillF (place : Nat → Option (Nat × Nat)) : List AV → List (Nat × AV) → Option (List AV)
  | cells, [] => some cells
  | cells, (i, x) :: rest =>
    match place i, cellsF x with
    | some (off, size), some cs =>
      match decide (cs.length = size) && cs.all AV.one, spliceF cells off cs with
      | true, some m => fillF place m rest
      | _, _ => none
    | _, _ => none
theorem fillF_eq {place : Nat → Option (Nat × Nat)} : ∀ {parts : List (Nat × AV)} {cells m : List AV}, fillF place cells parts = some m → fillA place cells parts = some m
  | [], cells, m, h => h
  | (i, x) :: rest, cells, m, h => by
    simp only [fillF] at h
    split at h
    · rename_i off size cs h1 h2
      split at h
      · rename_i m' hb hs
        obtain ⟨h3, h4⟩ := spliceF_eq hs
        simp only [Bool.and_eq_true, decide_eq_true_eq] at hb
        have hsz : cs.length = size := hb.1
        have ho : cs.all AV.one = true := hb.2
        simp only [fillA, h1, cellsF_eq h2]
        rw [if_pos ⟨hsz, by omega, ho⟩, h3]
        exact fillF_eq h
      · simp at h
    · simp at h

/-- What an operation gives where nothing is to be asked but what computes. -/
def astep (X : Cfg) (env : Env) (σ : St) : Op → Option (AV × St)
  | .move x => match (aev X env x).force with | some r => some (r, σ) | none => none
  | .assign x => match (aev X env x).force with | some r => some (r, σ) | none => none
  | .pick c a b =>
    match aev X env c with
    | .d (.s (.bool true)) => (match (aev X env a).force with | some r => some (r, σ) | none => none)
    | .d (.s (.bool false)) => (match (aev X env b).force with | some r => some (r, σ) | none => none)
    | _ => none
  | .binOp op _ x y _ =>
    match decide (op = .add) || decide (op = .sub) || decide (op = .mul), aev X env x, aev X env y with
    | false, .d (.s a), .d (.s b) => (match abin op a b with | some r => some (.d (.s r), σ) | none => none)
    | _, _, _ => none
  | .unOp op _ x =>
    match op, aev X env x with
    | .neg, .d (.s (.int k n)) => some (.d (.s (.int k (k.wrap (0 - n)))), σ)
    | .not, .d (.s (.bool b)) => some (.d (.s (.bool (!b))), σ)
    | _, _ => none
  | .load t a =>
    match X.T t, behind σ (aev X env a) with
    | some ti, some co => match pieceF (isAggK ti.kind) co.1 co.2 ti.size with | some r => some (r, σ) | none => none
    | _, _ => none
  | .fieldAddr t p f =>
    match X.T t with
    | some ti =>
      match ti.kind with
      | .struct fs =>
        match fs[f]? with
        | some fd =>
          match X.T fd.2 with
          | some tf =>
            if 0 < tf.size then
              match natF fd.1 with
              | some d =>
                match aev X env p with
                | .ref i off => some (.ref i (off + d), σ)
                | .ep i v k off => some (.ep i v k (off + d), σ)
                | .d (.ip cells off) => some (.d (.ip cells (off + d)), σ)
                | _ => none
              | none => none
            else none
          | none => none
        | none => none
      | _ => none
    | none => none
  | .field t x f =>
    match X.T t with
    | some ti =>
      match ti.kind with
      | .struct fs =>
        match fs[f]? with
        | some fd =>
          match X.T fd.2, aev X env x with
          | some tf, .agg cs => match pieceF (isAggK tf.kind) cs fd.1 tf.size with | some r => some (r, σ) | none => none
          | _, _ => none
        | none => none
      | _ => none
    | none => none
  | .extract t i => match aev X env t with | .tup vs => (match vs[i]? with | some r => (match r.force with | some r => some (r, σ) | none => none) | none => none) | _ => none
  | .alloc e => match X.T e with | some ti => (match natF σ.next, listF (zrow ti) with | some n, some cs => some (.ref n 0, σ.alloc (.var cs)) | _, _ => none) | none => none
  | .box _ x => match cellsF (aev X env x), natF σ.next with | some cs, some n => if cs.all AV.one = true then some (.ref n 0, σ.alloc (.var cs)) else none | _, _ => none
  | .build t ps =>
    match X.T t with
    | some ti =>
      match ti.kind, listF (zrow ti) with
      | .struct fs, some z => match fillF (places X fs) z (ps.toList.map fun p => (p.1, aev X env p.2)) with | some cs => some (.agg cs, σ) | none => none
      | _, _ => none
    | none => none
  | .store t p x =>
    match X.T t, cellsF (aev X env x) with
    | some ti, some cs =>
      match decide (cs.length = ti.size) && cs.all AV.one, aev X env p with
      | true, .ref i off => (match σ.obj i with | some (.var cells) => (match spliceF cells off cs with | some m => some (.d (.s undef), σ.set i (.var m)) | none => none) | _ => none)
      | _, _ => none
    | _, _ => none
  | .call c =>
    match c.callee, c.args.toList, c.argTypes.toList with
    | .builtin .len, [x], [t] =>
      match X.T t with
      | some ti =>
        match ti.kind, aev X env x with
        | .string, .d (.s (.string s)) => some (.d (.s (.int .i64 s.size)), σ)
        | .slice _, .d (.s (.slice _ n _)) => some (.d (.s (.int .i64 n)), σ)
        | .slice _, .sl _ _ lo hi => some (.d (.s (.int .i64 ((hi - lo : Nat) : Int))), σ)
        | _, _ => none
      | none => none
    | _, _, _ => none
  | _ => none

theorem astep_ok {X : Cfg} {env : Env} {σ σ' : St} {r : AV} {op : Op} {K : AV → St → Prop} {Q : Exit → Env → St → Prop} (h : astep X env σ op = some (r, σ')) (hk : K r σ') : aoper X op env σ Q K := by
  have fin : ∀ {x : AV} {s : St}, some (x, s) = some (r, σ') → (x = r ∧ s = σ') := fun h => by simpa using h
  cases op with
  | move x =>
    simp only [astep] at h
    split at h
    · rename_i x' hx; obtain ⟨rfl, rfl⟩ := fin h; rw [← force_eq hx] at hk; exact hk
    · simp at h
  | assign x =>
    simp only [astep] at h
    split at h
    · rename_i x' hx; obtain ⟨rfl, rfl⟩ := fin h; rw [← force_eq hx] at hk; exact hk
    · simp at h
  | pick c a b =>
    simp only [astep] at h
    split at h
    · rename_i hc
      split at h
      · rename_i x' hx; obtain ⟨rfl, rfl⟩ := fin h; rw [← force_eq hx] at hk; exact ⟨true, hc, hk⟩
      · simp at h
    · rename_i hc
      split at h
      · rename_i x' hx; obtain ⟨rfl, rfl⟩ := fin h; rw [← force_eq hx] at hk; exact ⟨false, hc, hk⟩
      · simp at h
    · simp at h
  | binOp op t x y ty =>
    simp only [astep] at h
    split at h
    · rename_i a b _ hx hy
      split at h
      · rename_i r' hr
        obtain ⟨rfl, rfl⟩ := fin h
        simp only [aoper, aop, abinop, hx, hy, hr]
        exact hk
      · simp at h
    · simp at h
  | unOp op t x =>
    simp only [astep] at h
    split at h
    · rename_i hx; obtain ⟨rfl, rfl⟩ := fin h; simp only [aoper, aop, aunop, hx]; exact hk
    · rename_i hx; obtain ⟨rfl, rfl⟩ := fin h; simp only [aoper, aop, aunop, hx]; exact hk
    · simp at h
  | load t a =>
    simp only [astep] at h
    split at h
    · rename_i ti co ht hco
      split at h
      · rename_i r' hr
        obtain ⟨rfl, rfl⟩ := fin h
        exact ⟨ti, ht, co, hco, _, pieceF_eq hr, hk⟩
      · simp at h
    · simp at h
  | fieldAddr t p f =>
    simp only [astep] at h
    split at h
    · rename_i ti ht
      split at h
      · rename_i fs hfs
        split at h
        · rename_i fd hfd
          split at h
          · rename_i tf htf
            split at h
            · rename_i hp
              refine ⟨ti, ht, fs, hfs, fd, hfd, tf, htf, hp, ?_⟩
              split at h
              · rename_i d hd
                have hd := natF_eq hd
                subst hd
                split at h
                · rename_i hx; obtain ⟨rfl, rfl⟩ := fin h; simp only [hx]; exact hk
                · rename_i hx; obtain ⟨rfl, rfl⟩ := fin h; simp only [hx]; exact hk
                · rename_i hx; obtain ⟨rfl, rfl⟩ := fin h; simp only [hx]; exact hk
                · simp at h
              · simp at h
            · simp at h
          · simp at h
        · simp at h
      · simp at h
    · simp at h
  | field t x f =>
    simp only [astep] at h
    split at h
    · rename_i ti ht
      split at h
      · rename_i fs hfs
        split at h
        · rename_i fd hfd
          split at h
          · rename_i tf cs htf hx
            split at h
            · rename_i r' hr
              obtain ⟨rfl, rfl⟩ := fin h
              exact ⟨ti, ht, fs, hfs, fd, hfd, tf, htf, cs, hx, _, pieceF_eq hr, hk⟩
            · simp at h
          · simp at h
        · simp at h
      · simp at h
    · simp at h
  | extract t i =>
    simp only [astep] at h
    split at h
    · rename_i vs hx
      split at h
      · rename_i r' hr
        split at h
        · rename_i r2 hr2
          obtain ⟨rfl, rfl⟩ := fin h
          simp only [aoper, aop, aextract, hx]
          rw [← force_eq hr2] at hk
          exact ⟨_, hr, hk⟩
        · simp at h
      · simp at h
    · simp at h
  | alloc e =>
    simp only [astep] at h
    split at h
    · rename_i ti ht
      split at h
      · rename_i n cs hn hcs
        obtain ⟨rfl, rfl⟩ := fin h
        rw [← natF_eq hn, ← listF_eq hcs] at hk
        exact ⟨ti, ht, hk⟩
      · simp at h
    · simp at h
  | box e x =>
    simp only [astep] at h
    split at h
    · rename_i cs n hcs hn
      split at h
      · rename_i h1
        obtain ⟨rfl, rfl⟩ := fin h
        rw [← natF_eq hn] at hk
        exact ⟨cs, cellsF_eq hcs, h1, hk⟩
      · simp at h
    · simp at h
  | build t ps =>
    simp only [astep] at h
    split at h
    · rename_i ti ht
      split at h
      · rename_i fs z hfs hz
        split at h
        · rename_i cs hcs
          obtain ⟨rfl, rfl⟩ := fin h
          rw [← listF_eq hz] at hcs
          refine ⟨ti, ht, ?_⟩
          simp only [hfs]
          exact ⟨cs, fillF_eq hcs, hk⟩
        · simp at h
      · simp at h
    · simp at h
  | store t p x =>
    simp only [astep] at h
    split at h
    · rename_i ti cs ht hcs
      split at h
      · rename_i i off h1 hx
        simp only [Bool.and_eq_true, decide_eq_true_eq] at h1
        refine ⟨ti, ht, cs, cellsF_eq hcs, h1.1, h1.2, ?_⟩
        split at h
        · rename_i cells ho
          split at h
          · rename_i m hm
            obtain ⟨rfl, rfl⟩ := fin h
            obtain ⟨h3, h4⟩ := spliceF_eq hm
            simp only [hx]
            exact ⟨cells, ho, by rw [← h1.1]; exact h4, by rw [h3]; exact hk⟩
          · simp at h
        · simp at h
      · simp at h
    · simp at h
  | call c =>
    obtain ⟨callee, args, tys⟩ := c
    simp only [astep] at h
    split at h
    · rename_i x t h1 h2
      split at h
      · rename_i ti ht
        simp only [aoper, h1, h2, abuiltin]
        refine ⟨ti, ht, ?_⟩
        split at h
        · rename_i s hkd hx; obtain ⟨rfl, rfl⟩ := fin h; simp only [hkd, hx]; exact hk
        · rename_i s hkd hx; obtain ⟨rfl, rfl⟩ := fin h; simp only [hkd, hx]; exact hk
        · rename_i s hkd hx; obtain ⟨rfl, rfl⟩ := fin h; simp only [hkd, hx]; exact hk
        · simp at h
      · simp at h
    · simp at h
  | _ => simp [astep] at h
end Go.Pm
