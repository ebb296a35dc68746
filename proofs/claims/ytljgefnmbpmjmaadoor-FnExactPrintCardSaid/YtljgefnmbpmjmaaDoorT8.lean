/- The abstract machine, thirty-third text: structs whose block is known to the letter; objects that are given up; functions that are known from elsewhere. -/
import Derived.Test.YtljgefnmbpmjmaaDoorT7
import Derived.Sort.Grow
import Derived.Deep.Draws
import Derived.Laws.IdiomStrings
import Derived.Test.YtljgefnmbpmjmaaDoorT5
import Derived.Lib.ItoaLen
import Derived.Lib.ItoaMem
import Derived.Test.YtljgefnmbpmjmaaDoorProg
import Derived.Test.YtljgefnmbpmjmaaDoorT3
import Derived.MakeChecks
import Derived.Test.YtljgefnmbpmjmaaDoorRows
set_option linter.unusedVariables false
set_option linter.unusedSimpArgs false
namespace Go.Pm
theorem new_iter {F : FH} {η : Et} {σ : St} {w : World} (hf : FRel F w) (hs : SRel F η σ w) (o : Obj) :
    ∃ η', Step F η σ w F η' (σ.alloc (.iter o)) (w.alloc o) ∧ FRel F (w.alloc o) ∧ SRel F η' (σ.alloc (.iter o)) (w.alloc o) ∧ η'.blk σ.next = w.heap.size := by
  have ha := Et.agree_withBlk η σ.next w.heap.size
  have hblk : (η.withBlk σ.next w.heap.size).blk σ.next = w.heap.size := by simp [Et.withBlk]
  obtain ⟨g1, g2, g3⟩ := upd (η' := η.withBlk σ.next w.heap.size) (w' := w.alloc o) hf hs σ.next (.iter o) (σ.next + 1) (Nat.lt_succ_self _) (Nat.le_succ _) ha ⟨by simp, rfl, rfl⟩
    (fun b hb _ => heap_alloc_old w _ hb) (.iter (by rw [hblk]; exact heap_alloc_new w _))
    (fun b hb hlt => by simp only [own, hblk, Option.some.injEq] at hb; omega)
  exact ⟨_, g1, g2, g3, hblk⟩
section
variable {X : Cfg} {nt : Nat} {ops : Array Oper} {rest : List Oper} {Q : Exit → Env → St → Prop} {env : Env} {σ : St} {dst : Option Tmp} {op : Op} {ty : TypeId} {pos : String} {after : Array Edge}
theorem alloc_iter {F : FH} {η : Et} {w : World} {K : AV → St → Prop} (hg : GRel X F) (hf : FRel F w) (hs : SRel F η σ w) {E : Nat} {ti : TI} (ht : X.T E = some ti)
    (hk : K (.ref σ.next 0) (σ.alloc (.iter (.cells ti.zero.toArray E)))) : VOk X F η σ w ((Instr.alloc E true (.tuple #[])).run X.P w) K := by
  obtain ⟨d, i, z, hu, hd, hi, hsz, hby, hz, hzc, hzl, hz1, hzn, hza⟩ := X.ok E ti ht
  obtain ⟨η', s1, s2, s3, hb⟩ := new_iter hf hs (.cells ti.zero.toArray E)
  refine ⟨.pointer (some ⟨w.heap.size, 0, none⟩), _, F, η', _, .ref σ.next 0, ?_, s1, hg, s2, s3, ?_, hk⟩
  · simp [Instr.alloc, zeroValue, typeInfo, hi, hz, newVar, newRow, hzc]
  · rw [← hb]; exact .ref (Nat.lt_succ_self _)
/-- A struct of its own whose block is known to the letter. -/
theorem Ug {e n : Nat} {ti : TI} {z : Array Value} (h : AR X nt ops Q rest (put env dst (.ref n 0)) (σ.alloc (.iter (.cells z e)))) (hd : dst.all (· < nt) = true := by exact rfl) (ht : X.T e = some ti := by exact rfl) (hz : ti.zero.toArray = z := by exact rfl) (hn : σ.next = n := by exact rfl) :
    AR X nt ops Q (⟨dst, .alloc e, ty, pos, after, none⟩ :: rest) env σ := by
  subst hn
  subst hz
  exact ar_opok hd fun F η a w hg hr => (alloc_iter hg hr.fr hr.st ht h).op
end
def St.drop (σ : St) (r : Nat) : St := ⟨fun j => if j = r then none else σ.obj j, σ.next⟩
theorem St.obj_drop (σ : St) (r j : Nat) : (σ.drop r).obj j = if j = r then none else σ.obj j := rfl
/-- An object is given up; of what was there its block alone may turn. -/
theorem drop_step {F : FH} {η : Et} {σ : St} {w w' : World} (hf : FRel F w) (hs : SRel F η σ w) {r : Nat} {o : AO} (ho : σ.obj r = some o) (hm : More w w') (hh : ∀ b, own η r o ≠ some b → b < w.heap.size → w'.heap[b]? = w.heap[b]?) :
    Step F η σ w F η (σ.drop r) w' ∧ FRel F w' ∧ SRel F η (σ.drop r) w' := by
  have keep : ∀ i oi, (σ.drop r).obj i = some oi → σ.obj i = some oi ∧ i ≠ r := by
    intro i oi h
    rw [St.obj_drop] at h
    split at h
    · cases h
    · rename_i hi; exact ⟨h, hi⟩
  refine ⟨⟨F.le_refl, Et.agree_refl _ _, Nat.le_refl _, hm, ?_, ?_, fun _ _ h _ => .inl h⟩, ?_, ⟨?_, ?_, ?_, ?_⟩⟩
  · exact fun b hb hno => hh b (hno r o ho) hb
  · intro i oi b hi hb _
    exact ⟨i, oi, (keep i oi hi).1, hb⟩
  · intro b ob hb
    have h0 := hf b ob hb
    have hlt : b < w.heap.size := by
      rcases Nat.lt_or_ge b w.heap.size with h | h
      · exact h
      · rw [Array.getElem?_eq_none (by omega)] at h0; cases h0
    rw [hh b (fun e => by have := hs.fr r o b ho e; rw [this] at hb; cases hb) hlt]
    exact h0
  · intro i oi hi; exact hs.lt i oi (keep i oi hi).1
  · intro i oi hi
    obtain ⟨h1, h2⟩ := keep i oi hi
    refine (hs.ob i oi h1).mono (hs.lt i oi h1) F.le_refl (Et.agree_refl _ _) (Nat.le_refl _) fun b hb => ?_
    exact hh b (fun e => h2 (hs.ap i r oi o b h1 ho hb e)) ((hs.ob i oi h1).own_lt hb)
  · intro i j oi oj b hi hj; exact hs.ap i j oi oj b (keep i oi hi).1 (keep j oj hj).1
  · intro i oi b hi; exact hs.fr i oi b (keep i oi hi).1
/-- A function of one word that makes blocks and gives a word. -/
theorem PFun.ext1 {X : Cfg} {f : FuncId} {u v : Value} (hc : CallOk X.P f) (h : ∀ (F : FH) (w : World), GRel X F → FRel F w → Calls X.P f #[u] w fun e w' => e = .returned v ∧ ∃ k os, w' = Sort.grow (w.drewN k) os) : PFun X f [.d (.s u)] (.d (.s v)) := by
  refine ⟨rfl, rfl, hc, fun F η w vals hg hf hs hn hv => ?_⟩
  have h0 := (hv 0 (by simp)).s_inv
  have hvals : vals = #[u] := by
    obtain ⟨l⟩ := vals
    match l, hn, h0 with
    | [y], _, h0 => simp [Array.getD] at h0; rw [h0]
  rw [hvals]
  refine (h F w hg hf).mono ?_
  rintro e w' ⟨rfl, k, os, rfl⟩
  have hh : ∀ b, b < w.heap.size → (Sort.grow (w.drewN k) os).heap[b]? = w.heap[b]? := by
    intro b hb
    show (w.heap ++ os)[b]? = w.heap[b]?
    rw [Array.getElem?_append_left hb]
  refine ⟨F, η, St.nil, .ret (.d (.s v)), ⟨F.le_refl, Et.agree_refl _ _, Nat.le_refl _, ⟨?_, rfl, rfl⟩, fun b hb _ => hh b hb, fun i o b ho hb _ => by simp [St.nil] at ho, fun b o hb _ => .inl hb⟩, ?_, SRel.nil _ _ _, .d (.s _), rfl⟩
  · show w.heap.size ≤ (w.heap ++ os).size
    simp
  · intro b o hb
    have h1 := hf b o hb
    have hlt : b < w.heap.size := by
      rcases Nat.lt_or_ge b w.heap.size with h | h
      · exact h
      · rw [Array.getElem?_eq_none (by omega)] at h1; cases h1
    rw [hh b hlt]; exact h1
end Go.Pm
/- The abstract machine, thirty-fourth text: rows of bytes, and strings put behind them. -/
set_option linter.unusedVariables false
set_option linter.unusedSimpArgs false
namespace Go.Pm
theorem bytes_app (t s : ByteArray) : (t ++ s).data.toList = t.data.toList ++ s.data.toList := by
  rw [ByteArray.data_append, Array.toList_append]
theorem byteRows_app (t s : ByteArray) : byteRows (t ++ s) = byteRows t ++ byteRows s := by
  unfold byteRows; rw [bytes_app, List.map_append]
theorem byteRows_low (s : ByteArray) (n : Nat) : ∀ r ∈ byteRows s, lows n r = true := by
  intro r hr
  obtain ⟨b, _, rfl⟩ := List.mem_map.1 hr
  rfl
theorem byteRows_ren (π : Nat → Nat) (s : ByteArray) : (byteRows s).map (rens π) = byteRows s := by
  unfold byteRows
  rw [List.map_map]
  rfl
attribute [local irreducible] AR Ok inBlock andThen endQ aoper
section
variable {X : Cfg} {nt : Nat} {Q : Exit → Env → St → Prop} {env : Env} {σ : St} {K : AV → St → Prop}
/-- A string behind a nil slice of bytes. -/
theorem Uh {ars : Array Operand} {ts : Array TypeId} {s x : Operand} {t tx el n : Nat} {ti te tix : TI} {u : ByteArray} (hb : u.size ≤ 140737488355328) (h : K (.sl n n 0 u.size) (σ.alloc (.row n el 1 (byteRows u))))
    (h1 : ars.toList = [s, x] := by exact rfl) (h2 : ts.toList = [t, tx] := by exact rfl) (hs : aev X env s = .d (.s (.slice none 0 0)) := by exact rfl) (hx : aev X env x = vs u := by exact rfl) (ht : X.T t = some ti := by exact rfl) (hk : ti.kind = .slice el := by exact rfl) (hte : X.T el = some te := by exact rfl) (hsz : te.size = 1 := by exact rfl) (hby : te.bytes = 1 := by exact rfl)
    (htx : X.T tx = some tix := by exact rfl) (hkx : tix.kind = .string := by exact rfl) (hn : σ.next = n := by exact rfl) : aoper X (.call ⟨.builtin .append, ars, ts⟩) env σ Q K := by
  subst hn
  simp only [aoper, abuiltin]
  rw [h1, h2]
  simp only [aappend]
  refine ⟨ti, ht, el, te, hk, hte, by omega, by omega, tix, htx, byteRows u, ?_, ?_, ?_⟩
  · rw [hkx, hx, hsz]; simp [srcOf]
  · intro r hr; rw [hsz]; obtain ⟨b, _, rfl⟩ := List.mem_map.1 hr; rfl
  · rw [hs, byteRows_length, hsz, hby]
    exact ⟨by omega, h⟩
/-- A string behind a row of bytes. -/
theorem Ui {ars : Array Operand} {ts : Array TypeId} {s x : Operand} {t tx el i v n : Nat} {ti te tix : TI} {w u : ByteArray} (ho : σ.obj i = some (.row v el 1 (byteRows w))) (hb : (w ++ u).size ≤ 140737488355328) (h : K (.sl i n 0 (w ++ u).size) (bumpSet σ i (.row n el 1 (byteRows (w ++ u)))))
    (h1 : ars.toList = [s, x] := by exact rfl) (h2 : ts.toList = [t, tx] := by exact rfl) (hs : aev X env s = .sl i v 0 w.size := by exact rfl) (hx : aev X env x = vs u := by exact rfl) (ht : X.T t = some ti := by exact rfl) (hk : ti.kind = .slice el := by exact rfl) (hte : X.T el = some te := by exact rfl) (hsz : te.size = 1 := by exact rfl) (hby : te.bytes = 1 := by exact rfl)
    (htx : X.T tx = some tix := by exact rfl) (hkx : tix.kind = .string := by exact rfl) (hn : σ.next = n := by exact rfl) : aoper X (.call ⟨.builtin .append, ars, ts⟩) env σ Q K := by
  subst hn
  simp only [aoper, abuiltin]
  rw [h1, h2]
  simp only [aappend]
  have hl : (byteRows w).length = w.size := byteRows_length w
  rw [ByteArray.size_append] at h hb
  refine ⟨ti, ht, el, te, hk, hte, by omega, by omega, tix, htx, byteRows u, ?_, ?_, ?_⟩
  · rw [hkx, hx, hsz]; simp [srcOf]
  · intro r hr; rw [hsz]; obtain ⟨b, _, rfl⟩ := List.mem_map.1 hr; rfl
  · rw [hs, byteRows_length, hsz, hby]
    refine ⟨rfl, byteRows w, ho, by omega, by omega, ?_⟩
    rw [List.take_of_length_le (by omega), ← byteRows_app]
    exact h
end
end Go.Pm
/- The abstract machine, thirty-fifth text: the end of a call under other numbers; what a call does to a text under way. -/
set_option linter.unusedVariables false
set_option linter.unusedSimpArgs false
namespace Go.Pm
theorem St.ext' {a b : St} (h1 : a.obj = b.obj) (h2 : a.next = b.next) : a = b := by
  cases a; cases b; cases h1; cases h2; rfl
/-- What is known of a call's end, under other numbers. -/
theorem AFun.lowR {X : Cfg} {f : FuncId} {args : List AV} {σ : St} {K K' : AEnd → St → Prop} (h : AFun X f args σ K)
    (hk : ∀ E σ1, K E σ1 → ∃ σ2 π r, K' (.ret r) σ2 ∧ LowR σ.next π (fun _ => .any) σ1 (fun _ => .any) σ2 ∧ E = .ret (ren π r) ∧ Pm.low σ2.next r = true) : AFun X f args σ K' := by
  refine ⟨h.1, fun F η w vals hg hf hs hn hv => (h.2 F η w vals hg hf hs hn hv).mono ?_⟩
  rintro e w' ⟨F', η', σ1, E, st, hf', hs1, he, hK⟩
  obtain ⟨σ2, π, r, h1, hl, rfl, hr⟩ := hk E σ1 hK
  refine ⟨F', η'.ren π, σ2, .ret r, hl.step st, hf', ⟨fun i o ho => (hl.ob i o ho).1, fun i o ho => renO_rel (hl.ob i o ho).2.2 (hs1.ob _ _ (hl.ob i o ho).2.1), ?_, fun i o b ho hb => hs1.fr (π i) _ b (hl.ob i o ho).2.1 (by rw [← own_ren]; exact hb)⟩, ?_, h1⟩
  · intro i j oi oj b hi hj hbi hbj
    rw [own_ren] at hbi hbj
    exact hl.inj i j oi oj hi hj (hs1.ap _ _ _ _ b (hl.ob i oi hi).2.1 (hl.ob j oj hj).2.1 hbi hbj)
  · cases e with
    | returned v => exact ren_rel _ _ hr he
    | panicked c => exact he.elim
    | outgrown => exact he.elim
theorem AFun.wfr {X : Cfg} {f : FuncId} {args : List AV} {σ : St} {K : AEnd → St → Prop} (hc : CallOk X.P f) (h : (∀ i o, σ.obj i = some o → i < σ.next) → (∀ i v E sz rows, σ.obj i = some (.row v E sz rows) → v < σ.next) → AFun X f args σ K) : AFun X f args σ K :=
  ⟨hc, fun F η w vals hg hf hs => (h hs.lt fun i v E sz rows ho => by
    have := hs.ob i _ ho
    cases this with
    | row xs hv => exact hv).2 F η w vals hg hf hs⟩
/-- A text under way, in a state of its own. -/
def bdO (u : TypeId) (h : Nat) (t : ByteArray) : List (Option AO) := [some (.var [.ref 0 0, .sl 1 h 0 t.size]), some (.row h u 1 (byteRows t))]
def bdUsed (u : TypeId) (σ : St) (i r : Nat) (s : ByteArray) : St := (bumpSet σ r (.row σ.next u 1 (byteRows s))).set i (.var [.ref i 0, .sl r σ.next 0 s.size])
def bdPi (i r h : Nat) (j : Nat) : Nat := if j = 0 then i else if j = 1 then r else h
theorem bd_lift {X : Cfg} {f : FuncId} {u : TypeId} {args0 args : List AV} {t s : ByteArray} (hc : AFun X f args0 (stL (bdO u 2 t ++ [none])) fun E σ' => E = .ret (.tup []) ∧ σ' = stL (bdO u 3 s ++ [none, none]))
    {σ : St} {i r h : Nat} (ho : σ.obj i = some (.var [.ref i 0, .sl r h 0 t.size])) (hr : σ.obj r = some (.row h u 1 (byteRows t))) (ha : rens (bdPi i r h) args0 = args) (hl : lows 3 args0 = true) :
    AFun X f args σ fun E σ' => E = .ret (.tup []) ∧ σ' = bdUsed u σ i r s := by
  refine AFun.wfr hc.1 fun wf1 wf2 => ?_
  have hi := wf1 i _ ho
  have hrr := wf1 r _ hr
  have hh := wf2 r _ _ _ _ hr
  have hne : i ≠ r := fun e => by rw [e, hr] at ho; cases ho
  let κ : Nat → Option Nat := fun j => if j = i then some 0 else if j = r then some 1 else none
  have obs : ∀ j o, (stL (bdO u 2 t ++ [none])).obj j = some o → (j = 0 ∧ o = .var [.ref 0 0, .sl 1 2 0 t.size]) ∨ (j = 1 ∧ o = .row 2 u 1 (byteRows t)) := by
    intro j o h
    match j, h with
    | 0, h => exact .inl ⟨rfl, (Option.some.inj h).symm⟩
    | 1, h => exact .inr ⟨rfl, (Option.some.inj h).symm⟩
    | 2, h => cases h
    | j + 3, h => simp [stL, bdO] at h
  have key := AFun.frame hc (bdPi i r h) κ (σ := σ) (fun j hj => by unfold bdPi; split; exact hi; split; exact hrr; exact hh)
    (fun j o hjo => by rcases obs j o hjo with ⟨rfl, _⟩ | ⟨rfl, _⟩ <;> (show _ < 3; omega))
    (fun j o hjo => by
      rcases obs j o hjo with ⟨rfl, rfl⟩ | ⟨rfl, rfl⟩
      · exact ⟨ho, rfl⟩
      · refine ⟨?_, ⟨by show 2 < 3; omega, byteRows_low t 3⟩⟩
        show σ.obj r = some (.row h u 1 ((byteRows t).map (rens (bdPi i r h))))
        rw [byteRows_ren]; exact hr)
    (fun j o hjo => by
      rcases obs j o hjo with ⟨rfl, _⟩ | ⟨rfl, _⟩
      · show (if i = i then some 0 else _) = _; rw [if_pos rfl]
      · show (if r = i then some 0 else if r = r then some 1 else none) = _; rw [if_neg (Ne.symm hne), if_pos rfl])
    (fun q j hq => by
      simp only [κ] at hq
      split at hq
      · cases hq; rename_i e; exact ⟨e.symm, by show 0 < 3; omega⟩
      · split at hq
        · cases hq; rename_i e; exact ⟨e.symm, by show 1 < 3; omega⟩
        · cases hq)
    hl
  rw [ha] at key
  refine key.mono ?_
  rintro E σ' ⟨E0, σ1, ⟨rfl, rfl⟩, rfl, rfl⟩
  refine ⟨rfl, ?_⟩
  have e0 : ext 3 σ.next (bdPi i r h) 0 = i := rfl
  have e1 : ext 3 σ.next (bdPi i r h) 1 = r := rfl
  have e3 : ext 3 σ.next (bdPi i r h) 3 = σ.next := by simp [ext]
  have hob : ∀ q, (mrg (stL (bdO u 2 t ++ [none])) σ (bdPi i r h) κ (stL (bdO u 3 s ++ [none, none]))).obj q = (bdUsed u σ i r s).obj q := by
    intro q
    simp only [mrg, bdUsed, St.obj_set, obj_bumpSet]
    by_cases hq : q < σ.next
    · rw [if_pos hq]
      by_cases h1 : q = i
      · have : κ q = some 0 := by simp only [κ]; rw [if_pos h1]
        rw [this, if_pos h1]
        show some (renO (ext 3 σ.next (bdPi i r h)) (.var [.ref 0 0, .sl 1 3 0 s.size])) = _
        simp only [renO, rens, ren, e0, e1, e3]
      · by_cases h2 : q = r
        · have : κ q = some 1 := by simp only [κ]; rw [if_neg h1, if_pos h2]
          rw [this, if_neg h1, if_pos h2]
          show some (renO (ext 3 σ.next (bdPi i r h)) (.row 3 u 1 (byteRows s))) = _
          simp only [renO, e3, byteRows_ren]
        · have : κ q = none := by simp only [κ]; rw [if_neg h1, if_neg h2]
          rw [this, if_neg h1, if_neg h2]
    · rw [if_neg hq, if_neg (by omega), if_neg (by omega)]
      have hno : σ.obj q = none := by
        cases hx : σ.obj q with
        | none => rfl
        | some o => exact absurd (wf1 q o hx) hq
      rw [hno]
      have h3 : (stL (bdO u 3 s ++ [none, none])).obj (q - σ.next + 3) = none := by
        generalize q - σ.next = z
        match z with
        | 0 => rfl
        | z + 1 => simp [stL, bdO]
      show ((stL (bdO u 3 s ++ [none, none])).obj (q - σ.next + 3)).map _ = none
      rw [h3]; rfl
  exact St.ext' (funext hob) rfl
section
variable {X : Cfg} {nt : Nat} {Q : Exit → Env → St → Prop} {env : Env} {σ : St} {K : AV → St → Prop}
attribute [local irreducible] AR Ok inBlock andThen endQ aoper
/-- A string behind a string. -/
theorem Ul {t ty : TypeId} {x y : Operand} {a b : ByteArray} (hK : K (vs (a ++ b)) σ) (hx : aev X env x = vs a := by exact rfl) (hy : aev X env y = vs b := by exact rfl) (hb : (a ++ b).size ≤ 9223372036854775807 := by first | omega | (simp only [ByteArray.size_append]; omega)) : aoper X (.binOp .add t x y ty) env σ Q K := by
  rw [ByteArray.size_append] at hb
  exact op_bin hx hy (by simp only [abin, if_pos hb]) hK
end
end Go.Pm
/- The abstract machine, thirty-sixth text: a string behind a nil slice of bytes; the new row takes a number that is free. -/
set_option linter.unusedVariables false
set_option linter.unusedSimpArgs false
namespace Go.Pm
section
variable {X : Cfg} {nt : Nat} {ops : Array Oper} {rest : List Oper} {Q : Exit → Env → St → Prop} {env : Env} {σ : St} {dst : Option Tmp} {ty : TypeId} {pos : String} {after : Array Edge}
/-- A new row may lie under any free number. -/
theorem move_row {F F' : FH} {η η' : Et} {w w' : World} {r v E sz : Nat} {rows : List (List AV)} (hs : SRel F η σ w) (hr : σ.obj r = none) (hrn : r < σ.next) (st : Step F η σ w F' η' (σ.alloc (.row v E sz rows)) w') (s2 : SRel F' η' (σ.alloc (.row v E sz rows)) w') :
    Step F η σ w F' η' (bumpSet σ r (.row v E sz rows)) w' ∧ SRel F' η' (bumpSet σ r (.row v E sz rows)) w' := by
  have hnone : σ.obj σ.next = none := by
    cases h : σ.obj σ.next with
    | none => rfl
    | some o => exact absurd (hs.lt _ _ h) (Nat.lt_irrefl _)
  have hself : (σ.alloc (.row v E sz rows)).obj σ.next = some (.row v E sz rows) := by rw [St.obj_alloc, if_pos rfl]
  have cas : ∀ i o, (bumpSet σ r (.row v E sz rows)).obj i = some o → (i = r ∧ o = .row v E sz rows) ∨ (i ≠ r ∧ i ≠ σ.next ∧ σ.obj i = some o ∧ (σ.alloc (.row v E sz rows)).obj i = some o) := by
    intro i o h
    rw [obj_bumpSet] at h
    split at h
    · rename_i e; exact .inl ⟨e, (Option.some.inj h).symm⟩
    · rename_i e
      have hne : i ≠ σ.next := fun e2 => by rw [e2, hnone] at h; cases h
      exact .inr ⟨e, hne, h, by rw [St.obj_alloc, if_neg hne]; exact h⟩
  refine ⟨⟨st.fh, st.et, st.nx, st.gr, st.fm, ?_, st.nf⟩, ⟨?_, ?_, ?_, ?_⟩⟩
  · intro i o b hi hb hlt
    rcases cas i o hi with ⟨rfl, rfl⟩ | ⟨_, _, _, h⟩
    · exact st.nw σ.next _ b hself hb hlt
    · exact st.nw i o b h hb hlt
  · intro i o hi
    rcases cas i o hi with ⟨rfl, rfl⟩ | ⟨_, _, h, _⟩
    · exact Nat.lt_succ_of_lt hrn
    · exact Nat.lt_succ_of_lt (hs.lt i o h)
  · intro i o hi
    rcases cas i o hi with ⟨rfl, rfl⟩ | ⟨_, _, _, h⟩
    · have := s2.ob _ _ hself
      cases this with
      | row xs a b c d e f g => exact .row xs a b c d e f g
    · exact s2.ob i o h
  · intro i j oi oj b hi hj hbi hbj
    rcases cas i oi hi with ⟨rfl, rfl⟩ | ⟨n1, m1, _, h1⟩ <;> rcases cas j oj hj with ⟨rfl, rfl⟩ | ⟨n2, m2, _, h2⟩
    · rfl
    · exact absurd (s2.ap σ.next j _ _ b hself h2 hbi hbj).symm m2
    · exact absurd (s2.ap i σ.next _ _ b h1 hself hbi hbj) m1
    · exact s2.ap i j _ _ b h1 h2 hbi hbj
  · intro i o b hi hb
    rcases cas i o hi with ⟨rfl, rfl⟩ | ⟨_, _, _, h⟩
    · exact s2.fr σ.next _ b hself hb
    · exact s2.fr i o b h hb
theorem Um {ars : Array Operand} {ts : Array TypeId} {s x : Operand} {t tx el n r : Nat} {ti te tix : TI} {u : ByteArray} (hr : σ.obj r = none) (hrn : r < σ.next) (hb : u.size ≤ 140737488355328)
    (h : AR X nt ops Q rest (put env dst (.sl r n 0 u.size)) (bumpSet σ r (.row n el 1 (byteRows u))))
    (hd : dst.all (· < nt) = true := by exact rfl) (h1 : ars.toList = [s, x] := by exact rfl) (h2 : ts.toList = [t, tx] := by exact rfl) (hs : aev X env s = .d (.s (.slice none 0 0)) := by exact rfl) (hx : aev X env x = vs u := by exact rfl) (ht : X.T t = some ti := by exact rfl) (hk : ti.kind = .slice el := by exact rfl) (hte : X.T el = some te := by exact rfl) (hsz : te.size = 1 := by exact rfl) (hby : te.bytes = 1 := by exact rfl)
    (htx : X.T tx = some tix := by exact rfl) (hkx : tix.kind = .string := by exact rfl) (hn : σ.next = n := by exact rfl) : AR X nt ops Q (⟨dst, .call ⟨.builtin .append, ars, ts⟩, ty, pos, after, none⟩ :: rest) env σ := by
  subst hn
  refine ar_opok hd fun F η a w hg hr0 => ?_
  have hao : aop X env σ (fun v σ' => v = .sl σ.next σ.next 0 u.size ∧ σ' = σ.alloc (.row σ.next el 1 (byteRows u))) (.call ⟨.builtin .append, ars, ts⟩) := by
    have := Uh (X := X) (Q := fun _ _ _ => False) (env := env) (σ := σ) (K := fun v σ' => v = .sl σ.next σ.next 0 u.size ∧ σ' = σ.alloc (.row σ.next el 1 (byteRows u))) (ars := ars) (ts := ts) hb ⟨rfl, rfl⟩ h1 h2 hs hx ht hk hte hsz hby htx hkx rfl
    simpa only [aoper, aop] using this
  obtain ⟨nx, v, w', F', η', σ', y, hrun, hnx, st, hg', hf', hs', hv, rfl, rfl⟩ := aop_ok (o := ⟨dst, .call ⟨.builtin .append, ars, ts⟩, ty, pos, after, none⟩) hg hr0 hao
  obtain ⟨g1, g2⟩ := move_row hr0.st hr hrn st hs'
  have hrel : ∀ m, VRel F' η' (σ.next + 1) (.sl σ.next σ.next 0 m) v → VRel F' η' (σ.next + 1) (.sl r σ.next 0 m) v := by
    intro m hq
    cases hq with
    | sl q1 q2 hh hle hc hoff => exact .sl (Nat.lt_succ_of_lt hrn) q2 hh hle hc hoff
    | sl0 q1 q2 hh => exact .sl0 (Nat.lt_succ_of_lt hrn) q2 hh
  exact ⟨nx, v, w', F', η', _, .sl r σ.next 0 u.size, hrun, hnx, g1, hg', hf', g2, hrel _ hv, h⟩
end
end Go.Pm
/- The abstract machine, thirty-seventh text: parts of strings; a byte behind a row of bytes; a row of bytes as a string. -/
set_option linter.unusedVariables false
set_option linter.unusedSimpArgs false
namespace Go.Pm
section
variable {X : Cfg} {nt : Nat} {ops : Array Oper} {rest : List Oper} {Q : Exit → Env → St → Prop} {env : Env} {σ : St} {dst : Option Tmp} {ty : TypeId} {pos : String} {after : Array Edge}
/-- A row of bytes as a string. -/
theorem Up {s t el i v n : Nat} {x : Operand} {w : ByteArray} {ts te td : TI} (hn : n = w.size) (ho : σ.obj i = some (.row v el 1 (byteRows w))) (h : AR X nt ops Q rest (put env dst (vs w)) σ)
    (hd : dst.all (· < nt) = true := by exact rfl) (hx : aev X env x = .sl i v 0 n := by exact rfl) (hs : X.T s = some ts := by exact rfl) (hks : ts.kind = .slice el := by exact rfl) (hte : X.T el = some te := by exact rfl) (hke : te.kind = .int .u8 := by exact rfl) (ht : X.T t = some td := by exact rfl) (hkt : td.kind = .string := by exact rfl) :
    AR X nt ops Q (⟨dst, .convert s t x, ty, pos, after, none⟩ :: rest) env σ := by
  subst hn
  refine ar_opok hd fun F η a w0 hg hr0 => ?_
  have hf := hr0.fr
  have hst := hr0.st
  obtain ⟨d1, i1, z1, hu1, hd1, _⟩ := X.ok s ts hs
  obtain ⟨d2, i2, z2, hu2, hd2, _⟩ := X.ok t td ht
  obtain ⟨d3, i3, z3, hu3, hd3, _⟩ := X.ok el te hte
  rw [hks] at hd1
  rw [hkt] at hd2
  rw [hke] at hd3
  have e1 := kind_slice hd1
  have e2 := kind_string hd2
  have e3 := kind_int hd3
  subst e1 e2 e3
  have hev := aev_rel hg hr0 x
  rw [hx] at hev
  have key : (convert s t (a.eval x)).run X.P w0 = .ok (.string w) w0 := by
    generalize a.eval x = vx at hev
    generalize hzz : w.size = z at hev
    have hor := hst.ob i _ ho
    cases hev with
    | @sl _ _ _ _ g cap sz off q1 q2 hh hle hc' hoff =>
      cases hor with
      | row xs b1 b2 b3 b4 b5 b6 b7 =>
        subst hzz
        have hblk : (η.hdr v).blk = some g := by rw [hh]
        obtain ⟨cur, hg1, hn2, hcap1, hsz1, htk⟩ := own_row_blk b4 hblk
        have hcap : (η.hdr v).cap = cap := by rw [hh]
        rw [hcap] at hn2 hcap1 hsz1
        rw [byteRows_length, Nat.mul_one] at htk
        rw [byteRows_length] at hn2
        rw [Nat.mul_one] at hsz1
        have hlen : w.data.toList.length = w.size := by simp
        by_cases h0 : w.size = 0
        · have hw : w = ⟨#[]⟩ := by
            apply ByteArray.ext
            apply Array.ext
            · simpa using h0
            · intro j h1 h2
              have : w.data.size = w.size := rfl
              omega
          have key := run_convert_bytes_back w0 s t el ⟨g, off, none⟩ cap [] hu1 hu3 hu2 (fun j hj => absurd hj (by simp))
          rw [hw]
          exact key
        · have hoff := hoff (by omega)
          rw [Nat.zero_mul] at hoff
          subst hoff
          have key := run_convert_bytes_back w0 s t el ⟨g, 0, none⟩ cap w.data.toList hu1 hu3 hu2 (fun j hj => by
            have hjb : j < (byteRows w).length := by rw [byteRows_length]; simpa using hj
            have hrow := b7 j hjb 0 (by simp [byteRows])
            have hcur : cur[j]? = xs[j]? := by
              rw [← htk, List.getElem?_take, if_pos (by rw [byteRows_length] at hjb; exact hjb), Array.getElem?_toList]
            have hxl : xs.length = w.size := by
              have := b4.1
              rw [byteRows_length, Nat.mul_one] at this
              exact this
            have hjx : j < xs.length := by rw [hxl]; rw [byteRows_length] at hjb; exact hjb
            have ea : (Addr.add ⟨g, 0, none⟩ j) = ⟨g, j, none⟩ := by unfold Addr.add; split <;> simp_all
            have ec : w0.cell? ⟨g, j, none⟩ = cur[j]? := by simp [World.cell?, hg1]
            rw [ea, ec, hcur, List.getElem?_eq_getElem hjx]
            have e2 : xs.getD (j * 1 + 0) undef = xs[j] := by
              rw [Nat.mul_one, Nat.add_zero]
              simp [List.getD, List.getElem?_eq_getElem hjx]
            rw [e2] at hrow
            have e3 : (byteRows w)[j][0]'(by simp [byteRows]) = .d (.s (.int .u8 (w.data.toList[j]).toNat)) := by
              simp only [byteRows, List.getElem_map, List.getElem_cons_zero]
            rw [e3] at hrow
            rw [hrow.s_inv])
          rw [hlen] at key
          exact key
    | sl0 q1 q2 hh =>
      rw [run_convert_bytes_string w0 s t el none 0 0 hu1 hu3 hu2]
      have h0 : w = .empty := by
        apply ByteArray.ext
        apply Array.ext
        · exact hzz
        · intro j h1 h2
          simp at h2
      rw [h0]
      rfl
  exact (VOk.same hg hf hst key (.d (.s (.string w))) h).op
end
attribute [local irreducible] AR Ok inBlock andThen endQ aoper
section
variable {X : Cfg} {nt : Nat} {Q : Exit → Env → St → Prop} {env : Env} {σ : St} {K : AV → St → Prop}
/-- A part of a string. -/
theorem Un {s r : ByteArray} {t : TypeId} {x y z : Operand} {m n : Int} {ti : TI} (a b : Nat) (hr : s.extract a b = r) (hK : K (vs r) σ)
    (hx : aev X env x = vs s := by exact rfl) (hy : aev X env y = vi m := by exact rfl) (hz : aev X env z = vi n := by exact rfl) (ht : X.T t = some ti := by exact rfl) (hk : ti.kind = .string := by exact rfl) (ha : m = (a : Int) := by omega) (hb : n = (b : Int) := by omega) (hab : a ≤ b := by omega) (hbl : b ≤ s.size := by omega) : aoper X (.slice t x (some y) (some z) none) env σ Q K := by
  simp only [aoper, aop, aslice, Option.map_some, optInt]
  rw [hx, hy, hz]
  refine ⟨ti, ht, some m, rfl, some n, rfl, ?_⟩
  rw [hk]
  subst ha hb hr
  refine ⟨by simp, by simpa using hab, by simpa using hbl, ?_⟩
  simpa using hK
/-- One byte behind a row of bytes. -/
theorem Uo {ars : Array Operand} {ts : Array TypeId} {s x : Operand} {t tx el i v n : Nat} {ti te tix : TI} {w : ByteArray} {c : UInt8} {c' : Int} {e2 : Nat} (ho : σ.obj i = some (.row v el 1 (byteRows w))) (hb : (w ++ ⟨#[c]⟩).size ≤ 140737488355328) (h : K (.sl i n 0 (w ++ ⟨#[c]⟩).size) (bumpSet σ i (.row n el 1 (byteRows (w ++ ⟨#[c]⟩)))))
    (h1 : ars.toList = [s, x] := by exact rfl) (h2 : ts.toList = [t, tx] := by exact rfl) (hs : aev X env s = .sl i v 0 w.size := by exact rfl) (hx : aev X env x = .d (.im [[.s (.int .u8 c')]]) := by exact rfl) (hc : c' = (c.toNat : Int) := by exact rfl) (ht : X.T t = some ti := by exact rfl) (hk : ti.kind = .slice el := by exact rfl) (hte : X.T el = some te := by exact rfl) (hsz : te.size = 1 := by exact rfl) (hby : te.bytes = 1 := by exact rfl)
    (htx : X.T tx = some tix := by exact rfl) (hkx : tix.kind = .slice e2 := by exact rfl) (hn : σ.next = n := by exact rfl) : aoper X (.call ⟨.builtin .append, ars, ts⟩) env σ Q K := by
  subst hn
  subst hc
  simp only [aoper, abuiltin]
  rw [h1, h2]
  simp only [aappend]
  have hl : (byteRows w).length = w.size := byteRows_length w
  rw [ByteArray.size_append] at h hb
  have hu1 : (ByteArray.mk #[c]).size = 1 := rfl
  have hbr : byteRows ⟨#[c]⟩ = [[.d (.s (.int .u8 c.toNat))]] := rfl
  refine ⟨ti, ht, el, te, hk, hte, by omega, by omega, tix, htx, byteRows ⟨#[c]⟩, ?_, ?_, ?_⟩
  · rw [hkx, hx, hbr]; rfl
  · intro r hr; rw [hsz]; obtain ⟨b, _, rfl⟩ := List.mem_map.1 hr; rfl
  · rw [hs, byteRows_length, hsz, hby]
    refine ⟨rfl, byteRows w, ho, by omega, by omega, ?_⟩
    rw [List.take_of_length_le (by omega), ← byteRows_app]
    exact h
end
end Go.Pm
/- The abstract machine, thirty-eighth text: some of what is owned is frozen; the rest is kept. -/
set_option linter.unusedVariables false
set_option linter.unusedSimpArgs false
namespace Go.Pm
/-- The objects of a set alone. -/
def St.sel (σ : St) (S : Nat → Bool) : St := ⟨fun j => if S j then σ.obj j else none, σ.next⟩
theorem St.sel_obj {σ : St} {S : Nat → Bool} {j : Nat} {o : AO} (h : (σ.sel S).obj j = some o) : S j = true ∧ σ.obj j = some o := by
  unfold St.sel at h
  simp only at h
  split at h
  · rename_i hs; exact ⟨hs, h⟩
  · cases h
theorem SRel.sel {F : FH} {η : Et} {σ : St} {w : World} (hs : SRel F η σ w) (S : Nat → Bool) : SRel F η (σ.sel S) w :=
  ⟨fun i o h => hs.lt i o (St.sel_obj h).2, fun i o h => hs.ob i o (St.sel_obj h).2, fun i j oi oj b hi hj => hs.ap i j oi oj b (St.sel_obj hi).2 (St.sel_obj hj).2, fun i o b h => hs.fr i o b (St.sel_obj h).2⟩
inductive Kz (τ : St) : AV → AV → Prop
  | same (x : AV) : Kz τ x x
  | fz {x y : AV} (h : AFz τ x y) : Kz τ x y
theorem kz_rel {F : FH} {η : Et} {τ : St} {w : World} (hs : SRel F η τ w) {x y : AV} (h : Kz τ x y) {u : Value} (hu : VRel F η τ.next x u) : VRel (F.all η τ w) η τ.next y u := by
  cases h with
  | same => exact hu.mono (FH.le_all hs) (Et.agree_refl _ _) (Nat.le_refl _)
  | fz h => exact afz_rel hs h hu
inductive OKz (τ : St) : AO → AO → Prop
  | same (o : AO) : OKz τ o o
  | var {cs cs' : List AV} (hl : cs'.length = cs.length) (h : ∀ j (h1 : j < cs.length) (h2 : j < cs'.length), Kz τ cs[j] cs'[j]) : OKz τ (.var cs) (.var cs')
  | row {v E sz : Nat} {rows rows' : List (List AV)} (hl : rows'.length = rows.length) (hr : ∀ k (h1 : k < rows.length) (h2 : k < rows'.length), (rows'[k]).length = (rows[k]).length)
      (h : ∀ k (h1 : k < rows.length) (h2 : k < rows'.length) j (h3 : j < (rows[k]).length) (h4 : j < (rows'[k]).length), Kz τ (rows[k])[j] (rows'[k])[j]) : OKz τ (.row v E sz rows) (.row v E sz rows')
theorem okz_own {τ : St} {o o' : AO} (h : OKz τ o o') (η : Et) (i : Nat) : own η i o' = own η i o := by cases h <;> rfl
theorem okz_rel {F : FH} {η : Et} {τ : St} {w : World} (hs : SRel F η τ w) {i : Nat} {o o' : AO} (h : OKz τ o o') (hi : i < τ.next) (ho : ORel F η τ.next w i o) : ORel (F.all η τ w) η τ.next w i o' := by
  cases h with
  | same => exact ho.mono hi (FH.le_all hs) (Et.agree_refl _ _) (Nat.le_refl _) fun b _ => rfl
  | var hl h =>
    cases ho with
    | var c E b1 b2 b3 b4 => exact .var c E b1 (by rw [b2, hl]) (fun j hj => b3 j (by omega)) fun j hj => kz_rel hs (h j (by omega) hj) (b4 j (by omega))
  | row hl hr h =>
    cases ho with
    | row xs b1 b2 b3 b4 b5 b6 b7 =>
      refine .row xs b1 b2 b3 (by rw [hl]; exact b4) ?_ b6 ?_
      · intro r hrm
        obtain ⟨k, hk, rfl⟩ := List.getElem_of_mem hrm
        rw [hr k (by omega) hk]
        exact b5 _ (List.getElem_mem _)
      · intro k hk j hj
        exact kz_rel hs (h k (by omega) hk j (by rw [← hr k (by omega) hk]; exact hj) hj) (b7 k (by omega) j (by rw [← hr k (by omega) hk]; exact hj))
/-- The objects of a set are frozen. -/
theorem turn_sel {X : Cfg} {nt : Nat} {env env' : Env} {σ σ' : St} (S : Nat → Bool) (hn : σ'.next = σ.next) (ho : ∀ j o', σ'.obj j = some o' → S j = false ∧ ∃ o, σ.obj j = some o ∧ OKz (σ.sel S) o o') (he : ∀ t, Kz (σ.sel S) (env t) (env' t)) : Turn X nt env σ env' σ' := by
  intro F η a w hg hr
  have hs := hr.st.sel S
  have hle := FH.le_all hs
  have keep : ∀ i o', σ'.obj i = some o' → S i = false ∧ i < σ.next ∧ ∃ o, σ.obj i = some o ∧ own η i o' = own η i o ∧ ORel (F.all η (σ.sel S) w) η σ.next w i o' := fun i o' h => by
    obtain ⟨h1, o, h2, h3⟩ := ho i o' h
    exact ⟨h1, hr.st.lt i o h2, o, h2, okz_own h3 η i, okz_rel hs h3 (hr.st.lt i o h2) (hr.st.ob i o h2)⟩
  refine ⟨F.all η (σ.sel S) w, η, ⟨hle, Et.agree_refl _ _, by rw [hn]; exact Nat.le_refl _, .refl _, fun _ _ _ => rfl, ?_, ?_⟩, hg.mono hle, ⟨?_, ⟨?_, ?_, ?_, ?_⟩, fun t => by rw [hn]; exact kz_rel hs (he t) (hr.en t), hr.sz, hr.df⟩⟩
  · intro i o' b h hb _
    obtain ⟨_, _, o, h2, h3, _⟩ := keep i o' h
    exact ⟨i, o, h2, by rw [← h3]; exact hb⟩
  · intro b o hb hlt
    unfold FH.all at hb
    split at hb
    · rename_i h
      obtain ⟨i, oi, h1, h2⟩ := h
      exact .inr ⟨i, oi, (St.sel_obj h1).2, h2⟩
    · exact .inl hb
  · intro b o hb
    unfold FH.all at hb
    split at hb
    · exact hb
    · exact hr.fr b o hb
  · intro i o' h
    obtain ⟨_, h2, _⟩ := keep i o' h
    rw [hn]; exact h2
  · intro i o' h
    obtain ⟨_, _, o, _, _, h4⟩ := keep i o' h
    rw [hn]; exact h4
  · intro i j oi oj b hi hj hbi hbj
    obtain ⟨_, _, o1, h1, e1, _⟩ := keep i oi hi
    obtain ⟨_, _, o2, h2, e2, _⟩ := keep j oj hj
    exact hr.st.ap i j o1 o2 b h1 h2 (by rw [← e1]; exact hbi) (by rw [← e2]; exact hbj)
  · intro i o' b h hb
    obtain ⟨h1, _, o, h2, e1, _⟩ := keep i o' h
    rw [e1] at hb
    unfold FH.all
    rw [if_neg]
    · exact hr.st.fr i o b h2 hb
    · rintro ⟨j, oj, hj, hbj⟩
      obtain ⟨q1, q2⟩ := St.sel_obj hj
      have := hr.st.ap i j o oj b h2 q2 hb hbj
      subst this
      rw [h1] at q1; cases q1
end Go.Pm
/- Texts: bytes put behind bytes; the text of a tree. No program in sight. -/
set_option linter.unusedVariables false
set_option linter.unusedSimpArgs false
namespace Go.Pm
def B (l : List UInt8) : ByteArray := ⟨l.toArray⟩
def itoaB (n : Int) : ByteArray := ⟨(Lib.itoa n).toArray⟩
def boolT (v : Int) : ByteArray := if v ≠ 0 then B [116, 114, 117, 101] else B [102, 97, 108, 115, 101]
theorem ba_assoc (a b c : ByteArray) : a ++ b ++ c = a ++ (b ++ c) := by
  apply ByteArray.ext; simp [ByteArray.data_append, Array.append_assoc]
theorem ba_nil (a : ByteArray) : a ++ B [] = a := by apply ByteArray.ext; simp [ByteArray.data_append, B]
theorem nil_ba (a : ByteArray) : B [] ++ a = a := by apply ByteArray.ext; simp [ByteArray.data_append, B]
theorem sz_of {u a R full : ByteArray} {M : Nat} (h : u ++ (a ++ R) = full) (hf : full.size ≤ M) : (u ++ a).size ≤ M := by
  rw [← ba_assoc] at h
  have := congrArg ByteArray.size h
  rw [ByteArray.size_append] at this
  omega
theorem nx_of {u a R full : ByteArray} (h : u ++ (a ++ R) = full) : u ++ a ++ R = full := by rw [ba_assoc]; exact h
def catT {α : Type} (f : α → ByteArray) : List α → ByteArray
  | [] => B []
  | x :: l => f x ++ catT f l
def joinT (sep : ByteArray) : Nat → List ByteArray → ByteArray
  | _, [] => B []
  | i, x :: l => (if 0 < i then sep else B []) ++ (x ++ joinT sep (i + 1) l)
theorem join_mem {sep x : ByteArray} : ∀ {l : List ByteArray} {i : Nat}, x ∈ l → x.size ≤ (joinT sep i l).size
  | [], _, h => by simp at h
  | y :: l, i, h => by
    simp only [joinT, ByteArray.size_append]
    rcases List.mem_cons.1 h with rfl | h
    · omega
    · have := join_mem (sep := sep) (i := i + 1) h
      omega
/-- The operators of the source text. -/
def otBytes : List (Int × List UInt8) := [(6, [43]), (7, [45]), (8, [42]), (9, [47]), (10, [109, 111, 100]), (11, [61]), (12, [60, 62]), (13, [60]), (14, [60, 61]), (15, [62]), (16, [62, 61]), (17, [97, 110, 100]), (18, [111, 114]), (19, [120, 111, 114])]
def otS : List (Int × ByteArray) := otBytes.map fun y => (y.1, ⟨y.2.toArray⟩)
def otFind (n : Int) : ByteArray := ((otS.find? fun y => decide (y.1 = n)).map (·.2)).getD ⟨#[]⟩
def kid (l : List ByteArray) (i : Nat) : ByteArray := l.getD i (B [])
/-- An item with the texts of its operands. -/
def textK (x : Itm) (l : List ByteArray) : ByteArray :=
  if x.op = 1 then itoaB x.val else if x.op = 2 then boolT x.val else if x.op = 3 then x.name
  else if x.op = 4 then B [40, 45, 32] ++ (kid l 0 ++ B [41])
  else if x.op = 5 then B [40, 110, 111, 116, 32] ++ (kid l 0 ++ B [41])
  else if x.op = 20 then B [40, 105, 102, 32] ++ (kid l 0 ++ (B [32, 116, 104, 101, 110, 32] ++ (kid l 1 ++ (B [32, 101, 108, 115, 101, 32] ++ (kid l 2 ++ B [41])))))
  else if x.op = 21 then B [40] ++ (itoaB x.val ++ (B [32, 102, 98, 121, 32] ++ (kid l 0 ++ B [41])))
  else if x.op = 22 then B [40] ++ (boolT x.val ++ (B [32, 102, 98, 121, 32] ++ (kid l 0 ++ B [41])))
  else if x.op = 23 then B [40] ++ (kid l 0 ++ ((if x.val = 1 then B [32, 119, 104, 101, 110, 32] else B [32, 119, 104, 101, 110, 111, 116, 32]) ++ (x.name ++ B [41])))
  else if x.op = 24 then B [40, 109, 101, 114, 103, 101, 32] ++ (x.name ++ (B [32] ++ (kid l 0 ++ (B [32] ++ (kid l 1 ++ B [41])))))
  else B [40] ++ (kid l 0 ++ (B [32] ++ (otFind x.op ++ (B [32] ++ (kid l 1 ++ B [41])))))
end Go.Pm
/- The table of the types of this translation, as the abstract machine looks at them (printed by wip/gen_types.py), and that it fits the program. -/
set_option linter.unusedVariables false
namespace Go.Pm
def tyL : List (Option TI) := [
  none,
  some ⟨.func, 1, 8, [.nilFunc], false⟩,
  some ⟨.int .i64, 1, 8, [.int .i64 0], false⟩,
  some ⟨.int .i64, 1, 8, [.int .i64 0], false⟩,
  some ⟨.bool, 1, 1, [.bool false], false⟩,
  some ⟨.int .u8, 1, 1, [.int .u8 0], false⟩,
  some ⟨.int .u8, 1, 1, [.int .u8 0], false⟩,
  some ⟨.struct [(0, 2), (1, 3), (2, 4), (3, 6)], 4, 24, [.int .i64 0, .int .i64 0, .bool false, .int .u8 0], false⟩,
  some ⟨.struct [(0, 2), (1, 3), (2, 4), (3, 6)], 4, 24, [.int .i64 0, .int .i64 0, .bool false, .int .u8 0], false⟩,
  some ⟨.string, 1, 16, [.string .empty], false⟩,
  some ⟨.string, 1, 16, [.string .empty], false⟩,
  some ⟨.string, 1, 16, [.string .empty], false⟩,
  some ⟨.int .u64, 1, 8, [.int .u64 0], false⟩,
  some ⟨.struct [(0, 9), (1, 12)], 2, 24, [.string .empty, .int .u64 0], false⟩,
  some ⟨.struct [(0, 9), (1, 12)], 2, 24, [.string .empty, .int .u64 0], false⟩,
  some ⟨.ptr 197, 1, 8, [.pointer none], false⟩,
  some ⟨.ptr 200, 1, 8, [.pointer none], false⟩,
  some ⟨.ptr 208, 1, 8, [.pointer none], false⟩,
  some ⟨.struct [(0, 17)], 1, 8, [.pointer none], false⟩,
  some ⟨.struct [(0, 17)], 1, 8, [.pointer none], false⟩,
  some ⟨.iface, 1, 16, [.nilIface], false⟩,
  some ⟨.int .i32, 1, 4, [.int .i32 0], false⟩,
  some ⟨.slice 93, 1, 24, [.slice none 0 0], false⟩,
  some ⟨.struct [(0, 22)], 1, 24, [.slice none 0 0], false⟩,
  some ⟨.struct [(0, 22)], 1, 24, [.slice none 0 0], false⟩,
  some ⟨.func, 1, 8, [.nilFunc], false⟩,
  some ⟨.func, 1, 8, [.nilFunc], false⟩,
  some ⟨.slice 40, 1, 24, [.slice none 0 0], false⟩,
  some ⟨.struct [(0, 27)], 1, 24, [.slice none 0 0], false⟩,
  some ⟨.struct [(0, 27)], 1, 24, [.slice none 0 0], false⟩,
  some ⟨.func, 1, 8, [.nilFunc], false⟩,
  some ⟨.func, 1, 8, [.nilFunc], false⟩,
  some ⟨.func, 1, 8, [.nilFunc], false⟩,
  none,
  some ⟨.func, 1, 8, [.nilFunc], false⟩,
  some ⟨.func, 1, 8, [.nilFunc], false⟩,
  some ⟨.func, 1, 8, [.nilFunc], false⟩,
  some ⟨.slice 56, 1, 24, [.slice none 0 0], false⟩,
  some ⟨.slice 47, 1, 24, [.slice none 0 0], false⟩,
  some ⟨.struct [(0, 9), (1, 37), (2, 37), (3, 37), (4, 38)], 5, 112, [.string .empty, .slice none 0 0, .slice none 0 0, .slice none 0 0, .slice none 0 0], false⟩,
  some ⟨.struct [(0, 9), (1, 37), (2, 37), (3, 37), (4, 38)], 5, 112, [.string .empty, .slice none 0 0, .slice none 0 0, .slice none 0 0, .slice none 0 0], false⟩,
  some ⟨.func, 1, 8, [.nilFunc], false⟩,
  some ⟨.slice 9, 1, 24, [.slice none 0 0], false⟩,
  some ⟨.func, 1, 8, [.nilFunc], false⟩,
  some ⟨.slice 99, 1, 24, [.slice none 0 0], false⟩,
  some ⟨.slice 44, 1, 24, [.slice none 0 0], false⟩,
  some ⟨.struct [(0, 42), (1, 44), (2, 9), (3, 45)], 4, 88, [.slice none 0 0, .slice none 0 0, .string .empty, .slice none 0 0], false⟩,
  some ⟨.struct [(0, 42), (1, 44), (2, 9), (3, 45)], 4, 88, [.slice none 0 0, .slice none 0 0, .string .empty, .slice none 0 0], false⟩,
  some ⟨.func, 1, 8, [.nilFunc], false⟩,
  some ⟨.func, 1, 8, [.nilFunc], false⟩,
  some ⟨.ptr 53, 1, 8, [.pointer none], false⟩,
  some ⟨.slice 5, 1, 24, [.slice none 0 0], false⟩,
  some ⟨.struct [(0, 50), (1, 51)], 2, 32, [.pointer none, .slice none 0 0], false⟩,
  some ⟨.struct [(0, 50), (1, 51)], 2, 32, [.pointer none, .slice none 0 0], false⟩,
  some ⟨.slice 62, 1, 24, [.slice none 0 0], false⟩,
  some ⟨.struct [(0, 9), (1, 3), (2, 54)], 3, 48, [.string .empty, .int .i64 0, .slice none 0 0], false⟩,
  some ⟨.struct [(0, 9), (1, 3), (2, 54)], 3, 48, [.string .empty, .int .i64 0, .slice none 0 0], false⟩,
  some ⟨.iface, 1, 16, [.nilIface], false⟩,
  some ⟨.iface, 1, 16, [.nilIface], false⟩,
  none,
  some ⟨.func, 1, 8, [.nilFunc], false⟩,
  some ⟨.struct [(0, 9), (1, 4)], 2, 24, [.string .empty, .bool false], false⟩,
  some ⟨.struct [(0, 9), (1, 4)], 2, 24, [.string .empty, .bool false], true⟩,
  some ⟨.func, 1, 8, [.nilFunc], false⟩,
  some ⟨.ptr 108, 1, 8, [.pointer none], false⟩,
  some ⟨.func, 1, 8, [.nilFunc], false⟩,
  some ⟨.func, 1, 8, [.nilFunc], false⟩,
  some ⟨.func, 1, 8, [.nilFunc], false⟩,
  some ⟨.func, 1, 8, [.nilFunc], false⟩,
  none,
  some ⟨.func, 1, 8, [.nilFunc], false⟩,
  some ⟨.slice 3, 1, 24, [.slice none 0 0], false⟩,
  some ⟨.func, 1, 8, [.nilFunc], false⟩,
  some ⟨.map 9 3, 1, 8, [.map none], false⟩,
  none,
  some ⟨.ptr 78, 1, 8, [.pointer none], false⟩,
  some ⟨.func, 1, 8, [.nilFunc], false⟩,
  some ⟨.struct [(0, 37), (1, 3), (2, 73)], 3, 40, [.slice none 0 0, .int .i64 0, .map none], false⟩,
  some ⟨.struct [(0, 37), (1, 3), (2, 73)], 3, 40, [.slice none 0 0, .int .i64 0, .map none], false⟩,
  some ⟨.func, 1, 8, [.nilFunc], false⟩,
  some ⟨.slice 64, 1, 24, [.slice none 0 0], false⟩,
  some ⟨.func, 1, 8, [.nilFunc], false⟩,
  some ⟨.func, 1, 8, [.nilFunc], false⟩,
  some ⟨.func, 1, 8, [.nilFunc], false⟩,
  some ⟨.slice 85, 1, 24, [.slice none 0 0], false⟩,
  some ⟨.map 9 4, 1, 8, [.map none], false⟩,
  some ⟨.func, 1, 8, [.nilFunc], false⟩,
  some ⟨.func, 1, 8, [.nilFunc], false⟩,
  some ⟨.func, 1, 8, [.nilFunc], false⟩,
  some ⟨.func, 1, 8, [.nilFunc], false⟩,
  some ⟨.slice 148, 1, 24, [.slice none 0 0], false⟩,
  some ⟨.slice 153, 1, 24, [.slice none 0 0], false⟩,
  some ⟨.struct [(0, 9), (1, 90), (2, 90), (3, 90), (4, 91)], 5, 112, [.string .empty, .slice none 0 0, .slice none 0 0, .slice none 0 0, .slice none 0 0], false⟩,
  some ⟨.struct [(0, 9), (1, 90), (2, 90), (3, 90), (4, 91)], 5, 112, [.string .empty, .slice none 0 0, .slice none 0 0, .slice none 0 0, .slice none 0 0], false⟩,
  some ⟨.func, 1, 8, [.nilFunc], false⟩,
  some ⟨.func, 1, 8, [.nilFunc], false⟩,
  some ⟨.func, 1, 8, [.nilFunc], false⟩,
  some ⟨.func, 1, 8, [.nilFunc], false⟩,
  some ⟨.struct [(0, 3), (1, 3), (2, 9)], 3, 32, [.int .i64 0, .int .i64 0, .string .empty], false⟩,
  some ⟨.struct [(0, 3), (1, 3), (2, 9)], 3, 32, [.int .i64 0, .int .i64 0, .string .empty], true⟩,
  some ⟨.func, 1, 8, [.nilFunc], false⟩,
  some ⟨.func, 1, 8, [.nilFunc], false⟩,
  some ⟨.func, 1, 8, [.nilFunc], false⟩,
  some ⟨.slice 37, 1, 24, [.slice none 0 0], false⟩,
  some ⟨.func, 1, 8, [.nilFunc], false⟩,
  some ⟨.func, 1, 8, [.nilFunc], false⟩,
  some ⟨.func, 1, 8, [.nilFunc], false⟩,
  some ⟨.struct [(0, 99), (3, 80), (4, 3)], 5, 64, [.int .i64 0, .int .i64 0, .string .empty, .slice none 0 0, .int .i64 0], false⟩,
  some ⟨.struct [(0, 99), (3, 80), (4, 3)], 5, 64, [.int .i64 0, .int .i64 0, .string .empty, .slice none 0 0, .int .i64 0], false⟩,
  some ⟨.map 3 9, 1, 8, [.map none], false⟩,
  some ⟨.ptr 5, 1, 8, [.pointer none], false⟩,
  some ⟨.func, 1, 8, [.nilFunc], false⟩,
  some ⟨.func, 1, 8, [.nilFunc], false⟩,
  none,
  some ⟨.func, 1, 8, [.nilFunc], false⟩,
  some ⟨.func, 1, 8, [.nilFunc], false⟩,
  some ⟨.func, 1, 8, [.nilFunc], false⟩,
  some ⟨.func, 1, 8, [.nilFunc], false⟩,
  some ⟨.func, 1, 8, [.nilFunc], false⟩,
  some ⟨.array 3 3, 3, 24, [.int .i64 0, .int .i64 0, .int .i64 0], false⟩,
  some ⟨.func, 1, 8, [.nilFunc], false⟩,
  some ⟨.func, 1, 8, [.nilFunc], false⟩,
  some ⟨.func, 1, 8, [.nilFunc], false⟩,
  some ⟨.func, 1, 8, [.nilFunc], false⟩,
  some ⟨.func, 1, 8, [.nilFunc], false⟩,
  some ⟨.func, 1, 8, [.nilFunc], false⟩,
  some ⟨.func, 1, 8, [.nilFunc], false⟩,
  none,
  some ⟨.func, 1, 8, [.nilFunc], false⟩,
  some ⟨.func, 1, 8, [.nilFunc], false⟩,
  some ⟨.func, 1, 8, [.nilFunc], false⟩,
  some ⟨.func, 1, 8, [.nilFunc], false⟩,
  some ⟨.func, 1, 8, [.nilFunc], false⟩,
  none,
  some ⟨.func, 1, 8, [.nilFunc], false⟩,
  some ⟨.func, 1, 8, [.nilFunc], false⟩,
  some ⟨.func, 1, 8, [.nilFunc], false⟩,
  some ⟨.func, 1, 8, [.nilFunc], false⟩,
  some ⟨.func, 1, 8, [.nilFunc], false⟩,
  some ⟨.func, 1, 8, [.nilFunc], false⟩,
  some ⟨.func, 1, 8, [.nilFunc], false⟩,
  some ⟨.slice 142, 1, 24, [.slice none 0 0], false⟩,
  some ⟨.slice 4, 1, 24, [.slice none 0 0], false⟩,
  some ⟨.func, 1, 8, [.nilFunc], false⟩,
  some ⟨.func, 1, 8, [.nilFunc], false⟩,
  some ⟨.func, 1, 8, [.nilFunc], false⟩,
  some ⟨.slice 180, 1, 24, [.slice none 0 0], false⟩,
  some ⟨.struct [(0, 9), (1, 3), (2, 146)], 3, 48, [.string .empty, .int .i64 0, .slice none 0 0], false⟩,
  some ⟨.struct [(0, 9), (1, 3), (2, 146)], 3, 48, [.string .empty, .int .i64 0, .slice none 0 0], false⟩,
  some ⟨.func, 1, 8, [.nilFunc], false⟩,
  some ⟨.slice 182, 1, 24, [.slice none 0 0], false⟩,
  some ⟨.slice 150, 1, 24, [.slice none 0 0], false⟩,
  some ⟨.struct [(0, 42), (1, 150), (2, 9), (3, 151)], 4, 88, [.slice none 0 0, .slice none 0 0, .string .empty, .slice none 0 0], false⟩,
  some ⟨.struct [(0, 42), (1, 150), (2, 9), (3, 151)], 4, 88, [.slice none 0 0, .slice none 0 0, .string .empty, .slice none 0 0], false⟩,
  some ⟨.func, 1, 8, [.nilFunc], false⟩,
  some ⟨.func, 1, 8, [.nilFunc], false⟩,
  some ⟨.func, 1, 8, [.nilFunc], false⟩,
  some ⟨.func, 1, 8, [.nilFunc], false⟩,
  some ⟨.func, 1, 8, [.nilFunc], false⟩,
  some ⟨.func, 1, 8, [.nilFunc], false⟩,
  some ⟨.func, 1, 8, [.nilFunc], false⟩,
  some ⟨.func, 1, 8, [.nilFunc], false⟩,
  some ⟨.func, 1, 8, [.nilFunc], false⟩,
  some ⟨.func, 1, 8, [.nilFunc], false⟩,
  some ⟨.func, 1, 8, [.nilFunc], false⟩,
  some ⟨.func, 1, 8, [.nilFunc], false⟩,
  some ⟨.func, 1, 8, [.nilFunc], false⟩,
  some ⟨.func, 1, 8, [.nilFunc], false⟩,
  some ⟨.func, 1, 8, [.nilFunc], false⟩,
  some ⟨.func, 1, 8, [.nilFunc], false⟩,
  some ⟨.array 24 5, 24, 24, [.int .u8 0, .int .u8 0, .int .u8 0, .int .u8 0, .int .u8 0, .int .u8 0, .int .u8 0, .int .u8 0, .int .u8 0, .int .u8 0, .int .u8 0, .int .u8 0, .int .u8 0, .int .u8 0, .int .u8 0, .int .u8 0, .int .u8 0, .int .u8 0, .int .u8 0, .int .u8 0, .int .u8 0, .int .u8 0, .int .u8 0, .int .u8 0], false⟩,
  some ⟨.int .u64, 1, 8, [.int .u64 0], false⟩,
  some ⟨.func, 1, 8, [.nilFunc], false⟩,
  some ⟨.func, 1, 8, [.nilFunc], false⟩,
  none,
  some ⟨.func, 1, 8, [.nilFunc], false⟩,
  some ⟨.func, 1, 8, [.nilFunc], false⟩,
  some ⟨.func, 1, 8, [.nilFunc], false⟩,
  some ⟨.func, 1, 8, [.nilFunc], false⟩,
  some ⟨.func, 1, 8, [.nilFunc], false⟩,
  some ⟨.struct [(0, 9), (1, 4)], 2, 24, [.string .empty, .bool false], false⟩,
  some ⟨.func, 1, 8, [.nilFunc], false⟩,
  some ⟨.struct [(0, 3), (1, 3), (2, 9)], 3, 32, [.int .i64 0, .int .i64 0, .string .empty], false⟩,
  some ⟨.func, 1, 8, [.nilFunc], false⟩,
  some ⟨.func, 1, 8, [.nilFunc], false⟩,
  some ⟨.func, 1, 8, [.nilFunc], false⟩,
  some ⟨.array 20 171, 20, 160, [.int .u64 0, .int .u64 0, .int .u64 0, .int .u64 0, .int .u64 0, .int .u64 0, .int .u64 0, .int .u64 0, .int .u64 0, .int .u64 0, .int .u64 0, .int .u64 0, .int .u64 0, .int .u64 0, .int .u64 0, .int .u64 0, .int .u64 0, .int .u64 0, .int .u64 0, .int .u64 0], false⟩,
  some ⟨.int .u32, 1, 4, [.int .u32 0], false⟩,
  some ⟨.array 65 5, 65, 65, [.int .u8 0, .int .u8 0, .int .u8 0, .int .u8 0, .int .u8 0, .int .u8 0, .int .u8 0, .int .u8 0, .int .u8 0, .int .u8 0, .int .u8 0, .int .u8 0, .int .u8 0, .int .u8 0, .int .u8 0, .int .u8 0, .int .u8 0, .int .u8 0, .int .u8 0, .int .u8 0, .int .u8 0, .int .u8 0, .int .u8 0, .int .u8 0, .int .u8 0, .int .u8 0, .int .u8 0, .int .u8 0, .int .u8 0, .int .u8 0, .int .u8 0, .int .u8 0, .int .u8 0, .int .u8 0, .int .u8 0, .int .u8 0, .int .u8 0, .int .u8 0, .int .u8 0, .int .u8 0, .int .u8 0, .int .u8 0, .int .u8 0, .int .u8 0, .int .u8 0, .int .u8 0, .int .u8 0, .int .u8 0, .int .u8 0, .int .u8 0, .int .u8 0, .int .u8 0, .int .u8 0, .int .u8 0, .int .u8 0, .int .u8 0, .int .u8 0, .int .u8 0, .int .u8 0, .int .u8 0, .int .u8 0, .int .u8 0, .int .u8 0, .int .u8 0, .int .u8 0], false⟩,
  some ⟨.int .u64, 1, 8, [.int .u64 0], false⟩,
  some ⟨.func, 1, 8, [.nilFunc], false⟩,
  some ⟨.func, 1, 8, [.nilFunc], false⟩,
  some ⟨.func, 1, 8, [.nilFunc], false⟩,
  some ⟨.func, 1, 8, [.nilFunc], false⟩,
  some ⟨.array 32 5, 32, 32, [.int .u8 0, .int .u8 0, .int .u8 0, .int .u8 0, .int .u8 0, .int .u8 0, .int .u8 0, .int .u8 0, .int .u8 0, .int .u8 0, .int .u8 0, .int .u8 0, .int .u8 0, .int .u8 0, .int .u8 0, .int .u8 0, .int .u8 0, .int .u8 0, .int .u8 0, .int .u8 0, .int .u8 0, .int .u8 0, .int .u8 0, .int .u8 0, .int .u8 0, .int .u8 0, .int .u8 0, .int .u8 0, .int .u8 0, .int .u8 0, .int .u8 0, .int .u8 0], false⟩,
  some ⟨.array 64 5, 64, 64, [.int .u8 0, .int .u8 0, .int .u8 0, .int .u8 0, .int .u8 0, .int .u8 0, .int .u8 0, .int .u8 0, .int .u8 0, .int .u8 0, .int .u8 0, .int .u8 0, .int .u8 0, .int .u8 0, .int .u8 0, .int .u8 0, .int .u8 0, .int .u8 0, .int .u8 0, .int .u8 0, .int .u8 0, .int .u8 0, .int .u8 0, .int .u8 0, .int .u8 0, .int .u8 0, .int .u8 0, .int .u8 0, .int .u8 0, .int .u8 0, .int .u8 0, .int .u8 0, .int .u8 0, .int .u8 0, .int .u8 0, .int .u8 0, .int .u8 0, .int .u8 0, .int .u8 0, .int .u8 0, .int .u8 0, .int .u8 0, .int .u8 0, .int .u8 0, .int .u8 0, .int .u8 0, .int .u8 0, .int .u8 0, .int .u8 0, .int .u8 0, .int .u8 0, .int .u8 0, .int .u8 0, .int .u8 0, .int .u8 0, .int .u8 0, .int .u8 0, .int .u8 0, .int .u8 0, .int .u8 0, .int .u8 0, .int .u8 0, .int .u8 0, .int .u8 0], false⟩,
  some ⟨.struct [(0, 17), (1, 17), (2, 17), (3, 9)], 4, 40, [.pointer none, .pointer none, .pointer none, .string .empty], false⟩,
  some ⟨.struct [(0, 17), (1, 17), (2, 17), (3, 9)], 4, 40, [.pointer none, .pointer none, .pointer none, .string .empty], false⟩,
  none,
  none,
  none,
  some ⟨.func, 1, 8, [.nilFunc], false⟩,
  some ⟨.int .u8, 1, 1, [.int .u8 0], false⟩,
  some ⟨.int .u8, 1, 1, [.int .u8 0], false⟩,
  some ⟨.func, 1, 8, [.nilFunc], false⟩,
  some ⟨.int .i32, 1, 4, [.int .i32 0], false⟩,
  some ⟨.int .i32, 1, 4, [.int .i32 0], false⟩,
  some ⟨.struct [(0, 12), (1, 12), (2, 187), (3, 202), (4, 5), (5, 5), (6, 203), (7, 204), (8, 110), (9, 205), (10, 206)], 11, 48, [.int .u64 0, .int .u64 0, .int .u32 0, .int .u8 0, .int .u8 0, .int .u8 0, .int .u8 0, .nilFunc, .pointer none, .int .i32 0, .int .i32 0], false⟩,
  some ⟨.struct [(0, 12), (1, 12), (2, 187), (3, 202), (4, 5), (5, 5), (6, 203), (7, 204), (8, 110), (9, 205), (10, 206)], 11, 48, [.int .u64 0, .int .u64 0, .int .u32 0, .int .u8 0, .int .u8 0, .int .u8 0, .int .u8 0, .nilFunc, .pointer none, .int .i32 0, .int .i32 0], false⟩]
set_option maxRecDepth 100000 in
theorem tyL_ok : checkAll Go.Proofs.Tryd.prog tyL tyL 0 = true := by kernel_rfl
-- types: 1=func() 2=int64 3=int 4=bool 5=uint8 6=abi.BoundsErrorCode 8=runtime.boundsError 9=string 10=runtime.errorString 11=runtime.plainError 12=uintptr 13=struct_{_msg_string;_addr_uintptr_} 14=runtime.errorAddressString 15=RuntimeError 16=RuntimeError 17=Align 18=struct_{_typ_*abi.Type_} 19=maps.unhashableTypeError 20=interface_{} 21=int32 22=[]laws.Node 23=struct_{_Nodes_[]laws.Node_} 24=laws.Program 25=func(laws.Program,_int)_int 26=func(impl.Program)_string 27=[]impl.Node 28=struct_{_Nodes_[]impl.Node_} 29=impl.Program 30=func(laws.Program)_impl.Program 31=func(impl.Program,_impl.Program)_bool 32=func(laws.Program)_bool 34=func(impl.Program)_(int,_int,_int) 35=func([]laws.Node,_int)_int 36=func(impl.Program)_bool 37=[]impl.Var 38=[]impl.Equation 40=impl.Node 41=func([]string,_string)_string 42=[]string 43=func([]impl.Var)_[]string 44=[]impl.Item 45=[][]impl.Item 47=impl.Equation 48=func([]impl.Item,_int)_string 49=func([]laws.Node)_[]impl.Node 50=strings.grow 51=[]uint8 52=struct_{_addr_*strings.Builder;_buf_[]uint8_} 53=strings.Builder 54=[]impl.Cond 55=struct_{_Name_string;_Type_int;_Clock_[]impl.Cond_} 56=impl.Var 57=interface_{_Error()_string_} 58=error 60=func(string)_(int,_error) 61=struct_{_Name_string;_On_bool_} 62=impl.Cond 63=func([]impl.Var) 64=loop.example/s0043/impl.print 65=func([]impl.Item)_*impl.tree 66=func(*strings.Builder) 67=func()_string 68=func([]impl.Node,_[]impl.Node)_bool 70=func(impl.Program,_int)_(int,_int) 71=[]int 72=func(impl.Program)_[]int 73=map[string]int 75=loop.example/s0043/impl.typeOf 76=func(impl.Node)_*impl.scope 77=struct_{_vars_[]impl.Var;_ins_int;_of_map[string]int_} 78=impl.scope 79=func([]impl.Cond,_[]impl.Cond)_bool 80=[]*impl.tree 81=func(impl.Equation)_[]*impl.tree 82=func(*impl.tree)_int 84=[]map[string]bool 85=map[string]bool 86=func(impl.Equation)_map[string]bool 87=func(int)_bool 88=func(impl.Node)_int 89=func(laws.Node,_int)_int 90=[]laws.Var 91=[]laws.Equation 93=laws.Node 94=func(impl.Node)_[]impl.Var 95=func(string)_bool 96=func(impl.Equation)_bool 97=func(impl.Var)_string 98=struct_{_Op_int;_Val_int;_Name_string_} 99=impl.Item 100=func(int)_string 101=func([]impl.Item,_int)_int 102=func(laws.Node)_impl.Node 103=[][]impl.Var 104=func([]impl.Item)_bool 105=func(int) 106=func(int)_int 107=struct_{_impl.Item;_kids_[]*impl.tree;_at_int_} 108=impl.tree 109=map[int]string 110=*uint8 111=func(impl.Node,_impl.Node)_bool 112=func(impl.Program,_int,_string)_int 114=func(impl.Node,_string)_(impl.Var,_int) 115=func([]string,_string)_bool 116=func(impl.Program,_int,_impl.Equation)_int 117=func(impl.Equation)_int 118=func(impl.Node)_bool 119=[3]int 120=func(bool,_int)_int 121=func(*impl.tree,_[]impl.Cond) 122=func([]impl.Cond,_impl.Cond)_[]impl.Cond 123=func(*impl.tree,_map[string]bool) 124=func([]laws.Var,_int)_int 125=func([]laws.Equation,_int)_int 126=func([]impl.Item,_int)_bool 128=func(int)_([]string,_[]int) 129=func([]laws.Var)_[]impl.Var 130=func([]laws.Equation)_[]impl.Equation 131=func(uint8)_bool 132=func(impl.Item)_bool 134=func(unsafe.Pointer)_unsafe.Pointer 135=func([]impl.Var,_[]impl.Var)_bool 136=func([]impl.Equation,_[]impl.Equation)_bool 137=func(impl.Equation)_[][]impl.Item 138=func(impl.Node,_[]impl.Item,_int)_int 139=func(impl.Node,_string)_[]impl.Cond 140=func(impl.Node,_[]impl.Item,_int,_[]impl.Cond)_bool 141=[][]bool 142=[]bool 143=func(impl.Node,_impl.Equation)_[]string 144=func(impl.Node,_string)_int 145=func(laws.Var,_int)_int 146=[]laws.Cond 147=struct_{_Name_string;_Type_int;_Clock_[]laws.Cond_} 148=laws.Var 149=func(laws.Equation,_int)_int 150=[]laws.Item 151=[][]laws.Item 153=laws.Equation 154=func()_[]string 155=func(laws.Var)_impl.Var 156=func(laws.Equation)_impl.Equation 157=func(int)_[]uint8 158=func(int64,_int)_string 159=func(impl.Var,_impl.Var)_bool 160=func(impl.Equation,_impl.Equation)_bool 161=func([]impl.Cond,_string,_bool)_[]impl.Cond 162=func([]laws.Cond,_int)_int 163=func([]string,_int)_int 164=func([]laws.Item,_int)_int 165=func([][]laws.Item,_int)_int 166=func([]laws.Cond)_[]impl.Cond 167=func([]string)_[]string 168=func([]laws.Item)_[]impl.Item 169=func([][]laws.Item)_[][]impl.Item 170=[24]uint8 171=uint64 172=func(uint64)_int 173=func([]uint8,_uint64) 175=func([]uint8,_uint64,_int,_bool,_bool)_([]uint8,_string) 176=func([]string,_[]string)_bool 177=func([]impl.Item,_[]impl.Item)_bool 178=func([][]impl.Item,_[][]impl.Item)_bool 179=func(laws.Cond,_int)_int 180=laws.Cond 181=func(laws.Item,_int)_int 182=laws.Item 183=func(laws.Cond)_impl.Cond 184=func(laws.Item)_impl.Item 185=func(bool)_int 186=[20]uint64 187=uint32 188=[65]uint8 189=uint 190=func(uint)_int 191=func(impl.Cond,_impl.Cond)_bool 192=func(impl.Item,_impl.Item)_bool 193=func(uint32)_int 194=[32]uint8 195=[64]uint8 197=runtime.TypeAssertionError 201=func()_int 202=abi.TFlag 203=abi.Kind 204=func(unsafe.Pointer,_unsafe.Pointer)_bool 205=abi.NameOff 206=abi.TypeOff 208=abi.Type
theorem look1 : look tyL 1 = some ⟨.func, 1, 8, [.nilFunc], false⟩ := rfl
theorem look2 : look tyL 2 = some ⟨.int .i64, 1, 8, [.int .i64 0], false⟩ := rfl
theorem look3 : look tyL 3 = some ⟨.int .i64, 1, 8, [.int .i64 0], false⟩ := rfl
theorem look4 : look tyL 4 = some ⟨.bool, 1, 1, [.bool false], false⟩ := rfl
theorem look5 : look tyL 5 = some ⟨.int .u8, 1, 1, [.int .u8 0], false⟩ := rfl
theorem look6 : look tyL 6 = some ⟨.int .u8, 1, 1, [.int .u8 0], false⟩ := rfl
theorem look7 : look tyL 7 = some ⟨.struct [(0, 2), (1, 3), (2, 4), (3, 6)], 4, 24, [.int .i64 0, .int .i64 0, .bool false, .int .u8 0], false⟩ := rfl
theorem look8 : look tyL 8 = some ⟨.struct [(0, 2), (1, 3), (2, 4), (3, 6)], 4, 24, [.int .i64 0, .int .i64 0, .bool false, .int .u8 0], false⟩ := rfl
theorem look9 : look tyL 9 = some ⟨.string, 1, 16, [.string .empty], false⟩ := rfl
theorem look10 : look tyL 10 = some ⟨.string, 1, 16, [.string .empty], false⟩ := rfl
theorem look11 : look tyL 11 = some ⟨.string, 1, 16, [.string .empty], false⟩ := rfl
theorem look12 : look tyL 12 = some ⟨.int .u64, 1, 8, [.int .u64 0], false⟩ := rfl
theorem look13 : look tyL 13 = some ⟨.struct [(0, 9), (1, 12)], 2, 24, [.string .empty, .int .u64 0], false⟩ := rfl
theorem look14 : look tyL 14 = some ⟨.struct [(0, 9), (1, 12)], 2, 24, [.string .empty, .int .u64 0], false⟩ := rfl
theorem look15 : look tyL 15 = some ⟨.ptr 197, 1, 8, [.pointer none], false⟩ := rfl
theorem look16 : look tyL 16 = some ⟨.ptr 200, 1, 8, [.pointer none], false⟩ := rfl
theorem look17 : look tyL 17 = some ⟨.ptr 208, 1, 8, [.pointer none], false⟩ := rfl
theorem look18 : look tyL 18 = some ⟨.struct [(0, 17)], 1, 8, [.pointer none], false⟩ := rfl
theorem look19 : look tyL 19 = some ⟨.struct [(0, 17)], 1, 8, [.pointer none], false⟩ := rfl
theorem look20 : look tyL 20 = some ⟨.iface, 1, 16, [.nilIface], false⟩ := rfl
theorem look21 : look tyL 21 = some ⟨.int .i32, 1, 4, [.int .i32 0], false⟩ := rfl
theorem look22 : look tyL 22 = some ⟨.slice 93, 1, 24, [.slice none 0 0], false⟩ := rfl
theorem look23 : look tyL 23 = some ⟨.struct [(0, 22)], 1, 24, [.slice none 0 0], false⟩ := rfl
theorem look24 : look tyL 24 = some ⟨.struct [(0, 22)], 1, 24, [.slice none 0 0], false⟩ := rfl
theorem look25 : look tyL 25 = some ⟨.func, 1, 8, [.nilFunc], false⟩ := rfl
theorem look26 : look tyL 26 = some ⟨.func, 1, 8, [.nilFunc], false⟩ := rfl
theorem look27 : look tyL 27 = some ⟨.slice 40, 1, 24, [.slice none 0 0], false⟩ := rfl
theorem look28 : look tyL 28 = some ⟨.struct [(0, 27)], 1, 24, [.slice none 0 0], false⟩ := rfl
theorem look29 : look tyL 29 = some ⟨.struct [(0, 27)], 1, 24, [.slice none 0 0], false⟩ := rfl
theorem look30 : look tyL 30 = some ⟨.func, 1, 8, [.nilFunc], false⟩ := rfl
theorem look31 : look tyL 31 = some ⟨.func, 1, 8, [.nilFunc], false⟩ := rfl
theorem look32 : look tyL 32 = some ⟨.func, 1, 8, [.nilFunc], false⟩ := rfl
theorem look34 : look tyL 34 = some ⟨.func, 1, 8, [.nilFunc], false⟩ := rfl
theorem look35 : look tyL 35 = some ⟨.func, 1, 8, [.nilFunc], false⟩ := rfl
theorem look36 : look tyL 36 = some ⟨.func, 1, 8, [.nilFunc], false⟩ := rfl
theorem look37 : look tyL 37 = some ⟨.slice 56, 1, 24, [.slice none 0 0], false⟩ := rfl
theorem look38 : look tyL 38 = some ⟨.slice 47, 1, 24, [.slice none 0 0], false⟩ := rfl
theorem look39 : look tyL 39 = some ⟨.struct [(0, 9), (1, 37), (2, 37), (3, 37), (4, 38)], 5, 112, [.string .empty, .slice none 0 0, .slice none 0 0, .slice none 0 0, .slice none 0 0], false⟩ := rfl
theorem look40 : look tyL 40 = some ⟨.struct [(0, 9), (1, 37), (2, 37), (3, 37), (4, 38)], 5, 112, [.string .empty, .slice none 0 0, .slice none 0 0, .slice none 0 0, .slice none 0 0], false⟩ := rfl
theorem look41 : look tyL 41 = some ⟨.func, 1, 8, [.nilFunc], false⟩ := rfl
theorem look42 : look tyL 42 = some ⟨.slice 9, 1, 24, [.slice none 0 0], false⟩ := rfl
theorem look43 : look tyL 43 = some ⟨.func, 1, 8, [.nilFunc], false⟩ := rfl
theorem look44 : look tyL 44 = some ⟨.slice 99, 1, 24, [.slice none 0 0], false⟩ := rfl
theorem look45 : look tyL 45 = some ⟨.slice 44, 1, 24, [.slice none 0 0], false⟩ := rfl
theorem look46 : look tyL 46 = some ⟨.struct [(0, 42), (1, 44), (2, 9), (3, 45)], 4, 88, [.slice none 0 0, .slice none 0 0, .string .empty, .slice none 0 0], false⟩ := rfl
theorem look47 : look tyL 47 = some ⟨.struct [(0, 42), (1, 44), (2, 9), (3, 45)], 4, 88, [.slice none 0 0, .slice none 0 0, .string .empty, .slice none 0 0], false⟩ := rfl
theorem look48 : look tyL 48 = some ⟨.func, 1, 8, [.nilFunc], false⟩ := rfl
theorem look49 : look tyL 49 = some ⟨.func, 1, 8, [.nilFunc], false⟩ := rfl
theorem look50 : look tyL 50 = some ⟨.ptr 53, 1, 8, [.pointer none], false⟩ := rfl
theorem look51 : look tyL 51 = some ⟨.slice 5, 1, 24, [.slice none 0 0], false⟩ := rfl
theorem look52 : look tyL 52 = some ⟨.struct [(0, 50), (1, 51)], 2, 32, [.pointer none, .slice none 0 0], false⟩ := rfl
theorem look53 : look tyL 53 = some ⟨.struct [(0, 50), (1, 51)], 2, 32, [.pointer none, .slice none 0 0], false⟩ := rfl
theorem look54 : look tyL 54 = some ⟨.slice 62, 1, 24, [.slice none 0 0], false⟩ := rfl
theorem look55 : look tyL 55 = some ⟨.struct [(0, 9), (1, 3), (2, 54)], 3, 48, [.string .empty, .int .i64 0, .slice none 0 0], false⟩ := rfl
theorem look56 : look tyL 56 = some ⟨.struct [(0, 9), (1, 3), (2, 54)], 3, 48, [.string .empty, .int .i64 0, .slice none 0 0], false⟩ := rfl
theorem look57 : look tyL 57 = some ⟨.iface, 1, 16, [.nilIface], false⟩ := rfl
theorem look58 : look tyL 58 = some ⟨.iface, 1, 16, [.nilIface], false⟩ := rfl
theorem look60 : look tyL 60 = some ⟨.func, 1, 8, [.nilFunc], false⟩ := rfl
theorem look61 : look tyL 61 = some ⟨.struct [(0, 9), (1, 4)], 2, 24, [.string .empty, .bool false], false⟩ := rfl
theorem look62 : look tyL 62 = some ⟨.struct [(0, 9), (1, 4)], 2, 24, [.string .empty, .bool false], true⟩ := rfl
theorem look63 : look tyL 63 = some ⟨.func, 1, 8, [.nilFunc], false⟩ := rfl
theorem look64 : look tyL 64 = some ⟨.ptr 108, 1, 8, [.pointer none], false⟩ := rfl
theorem look65 : look tyL 65 = some ⟨.func, 1, 8, [.nilFunc], false⟩ := rfl
theorem look66 : look tyL 66 = some ⟨.func, 1, 8, [.nilFunc], false⟩ := rfl
theorem look67 : look tyL 67 = some ⟨.func, 1, 8, [.nilFunc], false⟩ := rfl
theorem look68 : look tyL 68 = some ⟨.func, 1, 8, [.nilFunc], false⟩ := rfl
theorem look70 : look tyL 70 = some ⟨.func, 1, 8, [.nilFunc], false⟩ := rfl
theorem look71 : look tyL 71 = some ⟨.slice 3, 1, 24, [.slice none 0 0], false⟩ := rfl
theorem look72 : look tyL 72 = some ⟨.func, 1, 8, [.nilFunc], false⟩ := rfl
theorem look73 : look tyL 73 = some ⟨.map 9 3, 1, 8, [.map none], false⟩ := rfl
theorem look75 : look tyL 75 = some ⟨.ptr 78, 1, 8, [.pointer none], false⟩ := rfl
theorem look76 : look tyL 76 = some ⟨.func, 1, 8, [.nilFunc], false⟩ := rfl
theorem look77 : look tyL 77 = some ⟨.struct [(0, 37), (1, 3), (2, 73)], 3, 40, [.slice none 0 0, .int .i64 0, .map none], false⟩ := rfl
theorem look78 : look tyL 78 = some ⟨.struct [(0, 37), (1, 3), (2, 73)], 3, 40, [.slice none 0 0, .int .i64 0, .map none], false⟩ := rfl
theorem look79 : look tyL 79 = some ⟨.func, 1, 8, [.nilFunc], false⟩ := rfl
theorem look80 : look tyL 80 = some ⟨.slice 64, 1, 24, [.slice none 0 0], false⟩ := rfl
theorem look81 : look tyL 81 = some ⟨.func, 1, 8, [.nilFunc], false⟩ := rfl
theorem look82 : look tyL 82 = some ⟨.func, 1, 8, [.nilFunc], false⟩ := rfl
theorem look83 : look tyL 83 = some ⟨.func, 1, 8, [.nilFunc], false⟩ := rfl
theorem look84 : look tyL 84 = some ⟨.slice 85, 1, 24, [.slice none 0 0], false⟩ := rfl
theorem look85 : look tyL 85 = some ⟨.map 9 4, 1, 8, [.map none], false⟩ := rfl
theorem look86 : look tyL 86 = some ⟨.func, 1, 8, [.nilFunc], false⟩ := rfl
theorem look87 : look tyL 87 = some ⟨.func, 1, 8, [.nilFunc], false⟩ := rfl
theorem look88 : look tyL 88 = some ⟨.func, 1, 8, [.nilFunc], false⟩ := rfl
theorem look89 : look tyL 89 = some ⟨.func, 1, 8, [.nilFunc], false⟩ := rfl
theorem look90 : look tyL 90 = some ⟨.slice 148, 1, 24, [.slice none 0 0], false⟩ := rfl
theorem look91 : look tyL 91 = some ⟨.slice 153, 1, 24, [.slice none 0 0], false⟩ := rfl
theorem look92 : look tyL 92 = some ⟨.struct [(0, 9), (1, 90), (2, 90), (3, 90), (4, 91)], 5, 112, [.string .empty, .slice none 0 0, .slice none 0 0, .slice none 0 0, .slice none 0 0], false⟩ := rfl
theorem look93 : look tyL 93 = some ⟨.struct [(0, 9), (1, 90), (2, 90), (3, 90), (4, 91)], 5, 112, [.string .empty, .slice none 0 0, .slice none 0 0, .slice none 0 0, .slice none 0 0], false⟩ := rfl
theorem look94 : look tyL 94 = some ⟨.func, 1, 8, [.nilFunc], false⟩ := rfl
theorem look95 : look tyL 95 = some ⟨.func, 1, 8, [.nilFunc], false⟩ := rfl
theorem look96 : look tyL 96 = some ⟨.func, 1, 8, [.nilFunc], false⟩ := rfl
theorem look97 : look tyL 97 = some ⟨.func, 1, 8, [.nilFunc], false⟩ := rfl
theorem look98 : look tyL 98 = some ⟨.struct [(0, 3), (1, 3), (2, 9)], 3, 32, [.int .i64 0, .int .i64 0, .string .empty], false⟩ := rfl
theorem look99 : look tyL 99 = some ⟨.struct [(0, 3), (1, 3), (2, 9)], 3, 32, [.int .i64 0, .int .i64 0, .string .empty], true⟩ := rfl
theorem look100 : look tyL 100 = some ⟨.func, 1, 8, [.nilFunc], false⟩ := rfl
theorem look101 : look tyL 101 = some ⟨.func, 1, 8, [.nilFunc], false⟩ := rfl
theorem look102 : look tyL 102 = some ⟨.func, 1, 8, [.nilFunc], false⟩ := rfl
theorem look103 : look tyL 103 = some ⟨.slice 37, 1, 24, [.slice none 0 0], false⟩ := rfl
theorem look104 : look tyL 104 = some ⟨.func, 1, 8, [.nilFunc], false⟩ := rfl
theorem look105 : look tyL 105 = some ⟨.func, 1, 8, [.nilFunc], false⟩ := rfl
theorem look106 : look tyL 106 = some ⟨.func, 1, 8, [.nilFunc], false⟩ := rfl
theorem look107 : look tyL 107 = some ⟨.struct [(0, 99), (3, 80), (4, 3)], 5, 64, [.int .i64 0, .int .i64 0, .string .empty, .slice none 0 0, .int .i64 0], false⟩ := rfl
theorem look108 : look tyL 108 = some ⟨.struct [(0, 99), (3, 80), (4, 3)], 5, 64, [.int .i64 0, .int .i64 0, .string .empty, .slice none 0 0, .int .i64 0], false⟩ := rfl
theorem look109 : look tyL 109 = some ⟨.map 3 9, 1, 8, [.map none], false⟩ := rfl
theorem look110 : look tyL 110 = some ⟨.ptr 5, 1, 8, [.pointer none], false⟩ := rfl
theorem look111 : look tyL 111 = some ⟨.func, 1, 8, [.nilFunc], false⟩ := rfl
theorem look112 : look tyL 112 = some ⟨.func, 1, 8, [.nilFunc], false⟩ := rfl
theorem look114 : look tyL 114 = some ⟨.func, 1, 8, [.nilFunc], false⟩ := rfl
theorem look115 : look tyL 115 = some ⟨.func, 1, 8, [.nilFunc], false⟩ := rfl
theorem look116 : look tyL 116 = some ⟨.func, 1, 8, [.nilFunc], false⟩ := rfl
theorem look117 : look tyL 117 = some ⟨.func, 1, 8, [.nilFunc], false⟩ := rfl
theorem look118 : look tyL 118 = some ⟨.func, 1, 8, [.nilFunc], false⟩ := rfl
theorem look119 : look tyL 119 = some ⟨.array 3 3, 3, 24, [.int .i64 0, .int .i64 0, .int .i64 0], false⟩ := rfl
theorem look120 : look tyL 120 = some ⟨.func, 1, 8, [.nilFunc], false⟩ := rfl
theorem look121 : look tyL 121 = some ⟨.func, 1, 8, [.nilFunc], false⟩ := rfl
theorem look122 : look tyL 122 = some ⟨.func, 1, 8, [.nilFunc], false⟩ := rfl
theorem look123 : look tyL 123 = some ⟨.func, 1, 8, [.nilFunc], false⟩ := rfl
theorem look124 : look tyL 124 = some ⟨.func, 1, 8, [.nilFunc], false⟩ := rfl
theorem look125 : look tyL 125 = some ⟨.func, 1, 8, [.nilFunc], false⟩ := rfl
theorem look126 : look tyL 126 = some ⟨.func, 1, 8, [.nilFunc], false⟩ := rfl
theorem look128 : look tyL 128 = some ⟨.func, 1, 8, [.nilFunc], false⟩ := rfl
theorem look129 : look tyL 129 = some ⟨.func, 1, 8, [.nilFunc], false⟩ := rfl
theorem look130 : look tyL 130 = some ⟨.func, 1, 8, [.nilFunc], false⟩ := rfl
theorem look131 : look tyL 131 = some ⟨.func, 1, 8, [.nilFunc], false⟩ := rfl
theorem look132 : look tyL 132 = some ⟨.func, 1, 8, [.nilFunc], false⟩ := rfl
theorem look134 : look tyL 134 = some ⟨.func, 1, 8, [.nilFunc], false⟩ := rfl
theorem look135 : look tyL 135 = some ⟨.func, 1, 8, [.nilFunc], false⟩ := rfl
theorem look136 : look tyL 136 = some ⟨.func, 1, 8, [.nilFunc], false⟩ := rfl
theorem look137 : look tyL 137 = some ⟨.func, 1, 8, [.nilFunc], false⟩ := rfl
theorem look138 : look tyL 138 = some ⟨.func, 1, 8, [.nilFunc], false⟩ := rfl
theorem look139 : look tyL 139 = some ⟨.func, 1, 8, [.nilFunc], false⟩ := rfl
theorem look140 : look tyL 140 = some ⟨.func, 1, 8, [.nilFunc], false⟩ := rfl
theorem look141 : look tyL 141 = some ⟨.slice 142, 1, 24, [.slice none 0 0], false⟩ := rfl
theorem look142 : look tyL 142 = some ⟨.slice 4, 1, 24, [.slice none 0 0], false⟩ := rfl
theorem look143 : look tyL 143 = some ⟨.func, 1, 8, [.nilFunc], false⟩ := rfl
theorem look144 : look tyL 144 = some ⟨.func, 1, 8, [.nilFunc], false⟩ := rfl
theorem look145 : look tyL 145 = some ⟨.func, 1, 8, [.nilFunc], false⟩ := rfl
theorem look146 : look tyL 146 = some ⟨.slice 180, 1, 24, [.slice none 0 0], false⟩ := rfl
theorem look147 : look tyL 147 = some ⟨.struct [(0, 9), (1, 3), (2, 146)], 3, 48, [.string .empty, .int .i64 0, .slice none 0 0], false⟩ := rfl
theorem look148 : look tyL 148 = some ⟨.struct [(0, 9), (1, 3), (2, 146)], 3, 48, [.string .empty, .int .i64 0, .slice none 0 0], false⟩ := rfl
theorem look149 : look tyL 149 = some ⟨.func, 1, 8, [.nilFunc], false⟩ := rfl
theorem look150 : look tyL 150 = some ⟨.slice 182, 1, 24, [.slice none 0 0], false⟩ := rfl
theorem look151 : look tyL 151 = some ⟨.slice 150, 1, 24, [.slice none 0 0], false⟩ := rfl
theorem look152 : look tyL 152 = some ⟨.struct [(0, 42), (1, 150), (2, 9), (3, 151)], 4, 88, [.slice none 0 0, .slice none 0 0, .string .empty, .slice none 0 0], false⟩ := rfl
theorem look153 : look tyL 153 = some ⟨.struct [(0, 42), (1, 150), (2, 9), (3, 151)], 4, 88, [.slice none 0 0, .slice none 0 0, .string .empty, .slice none 0 0], false⟩ := rfl
theorem look154 : look tyL 154 = some ⟨.func, 1, 8, [.nilFunc], false⟩ := rfl
theorem look155 : look tyL 155 = some ⟨.func, 1, 8, [.nilFunc], false⟩ := rfl
theorem look156 : look tyL 156 = some ⟨.func, 1, 8, [.nilFunc], false⟩ := rfl
theorem look157 : look tyL 157 = some ⟨.func, 1, 8, [.nilFunc], false⟩ := rfl
theorem look158 : look tyL 158 = some ⟨.func, 1, 8, [.nilFunc], false⟩ := rfl
theorem look159 : look tyL 159 = some ⟨.func, 1, 8, [.nilFunc], false⟩ := rfl
theorem look160 : look tyL 160 = some ⟨.func, 1, 8, [.nilFunc], false⟩ := rfl
theorem look161 : look tyL 161 = some ⟨.func, 1, 8, [.nilFunc], false⟩ := rfl
theorem look162 : look tyL 162 = some ⟨.func, 1, 8, [.nilFunc], false⟩ := rfl
theorem look163 : look tyL 163 = some ⟨.func, 1, 8, [.nilFunc], false⟩ := rfl
theorem look164 : look tyL 164 = some ⟨.func, 1, 8, [.nilFunc], false⟩ := rfl
theorem look165 : look tyL 165 = some ⟨.func, 1, 8, [.nilFunc], false⟩ := rfl
theorem look166 : look tyL 166 = some ⟨.func, 1, 8, [.nilFunc], false⟩ := rfl
theorem look167 : look tyL 167 = some ⟨.func, 1, 8, [.nilFunc], false⟩ := rfl
theorem look168 : look tyL 168 = some ⟨.func, 1, 8, [.nilFunc], false⟩ := rfl
theorem look169 : look tyL 169 = some ⟨.func, 1, 8, [.nilFunc], false⟩ := rfl
theorem look170 : look tyL 170 = some ⟨.array 24 5, 24, 24, [.int .u8 0, .int .u8 0, .int .u8 0, .int .u8 0, .int .u8 0, .int .u8 0, .int .u8 0, .int .u8 0, .int .u8 0, .int .u8 0, .int .u8 0, .int .u8 0, .int .u8 0, .int .u8 0, .int .u8 0, .int .u8 0, .int .u8 0, .int .u8 0, .int .u8 0, .int .u8 0, .int .u8 0, .int .u8 0, .int .u8 0, .int .u8 0], false⟩ := rfl
theorem look171 : look tyL 171 = some ⟨.int .u64, 1, 8, [.int .u64 0], false⟩ := rfl
theorem look172 : look tyL 172 = some ⟨.func, 1, 8, [.nilFunc], false⟩ := rfl
theorem look173 : look tyL 173 = some ⟨.func, 1, 8, [.nilFunc], false⟩ := rfl
theorem look175 : look tyL 175 = some ⟨.func, 1, 8, [.nilFunc], false⟩ := rfl
theorem look176 : look tyL 176 = some ⟨.func, 1, 8, [.nilFunc], false⟩ := rfl
theorem look177 : look tyL 177 = some ⟨.func, 1, 8, [.nilFunc], false⟩ := rfl
theorem look178 : look tyL 178 = some ⟨.func, 1, 8, [.nilFunc], false⟩ := rfl
theorem look179 : look tyL 179 = some ⟨.func, 1, 8, [.nilFunc], false⟩ := rfl
theorem look180 : look tyL 180 = some ⟨.struct [(0, 9), (1, 4)], 2, 24, [.string .empty, .bool false], false⟩ := rfl
theorem look181 : look tyL 181 = some ⟨.func, 1, 8, [.nilFunc], false⟩ := rfl
theorem look182 : look tyL 182 = some ⟨.struct [(0, 3), (1, 3), (2, 9)], 3, 32, [.int .i64 0, .int .i64 0, .string .empty], false⟩ := rfl
theorem look183 : look tyL 183 = some ⟨.func, 1, 8, [.nilFunc], false⟩ := rfl
theorem look184 : look tyL 184 = some ⟨.func, 1, 8, [.nilFunc], false⟩ := rfl
theorem look185 : look tyL 185 = some ⟨.func, 1, 8, [.nilFunc], false⟩ := rfl
theorem look186 : look tyL 186 = some ⟨.array 20 171, 20, 160, [.int .u64 0, .int .u64 0, .int .u64 0, .int .u64 0, .int .u64 0, .int .u64 0, .int .u64 0, .int .u64 0, .int .u64 0, .int .u64 0, .int .u64 0, .int .u64 0, .int .u64 0, .int .u64 0, .int .u64 0, .int .u64 0, .int .u64 0, .int .u64 0, .int .u64 0, .int .u64 0], false⟩ := rfl
theorem look187 : look tyL 187 = some ⟨.int .u32, 1, 4, [.int .u32 0], false⟩ := rfl
theorem look188 : look tyL 188 = some ⟨.array 65 5, 65, 65, [.int .u8 0, .int .u8 0, .int .u8 0, .int .u8 0, .int .u8 0, .int .u8 0, .int .u8 0, .int .u8 0, .int .u8 0, .int .u8 0, .int .u8 0, .int .u8 0, .int .u8 0, .int .u8 0, .int .u8 0, .int .u8 0, .int .u8 0, .int .u8 0, .int .u8 0, .int .u8 0, .int .u8 0, .int .u8 0, .int .u8 0, .int .u8 0, .int .u8 0, .int .u8 0, .int .u8 0, .int .u8 0, .int .u8 0, .int .u8 0, .int .u8 0, .int .u8 0, .int .u8 0, .int .u8 0, .int .u8 0, .int .u8 0, .int .u8 0, .int .u8 0, .int .u8 0, .int .u8 0, .int .u8 0, .int .u8 0, .int .u8 0, .int .u8 0, .int .u8 0, .int .u8 0, .int .u8 0, .int .u8 0, .int .u8 0, .int .u8 0, .int .u8 0, .int .u8 0, .int .u8 0, .int .u8 0, .int .u8 0, .int .u8 0, .int .u8 0, .int .u8 0, .int .u8 0, .int .u8 0, .int .u8 0, .int .u8 0, .int .u8 0, .int .u8 0, .int .u8 0], false⟩ := rfl
theorem look189 : look tyL 189 = some ⟨.int .u64, 1, 8, [.int .u64 0], false⟩ := rfl
theorem look190 : look tyL 190 = some ⟨.func, 1, 8, [.nilFunc], false⟩ := rfl
theorem look191 : look tyL 191 = some ⟨.func, 1, 8, [.nilFunc], false⟩ := rfl
theorem look192 : look tyL 192 = some ⟨.func, 1, 8, [.nilFunc], false⟩ := rfl
theorem look193 : look tyL 193 = some ⟨.func, 1, 8, [.nilFunc], false⟩ := rfl
theorem look194 : look tyL 194 = some ⟨.array 32 5, 32, 32, [.int .u8 0, .int .u8 0, .int .u8 0, .int .u8 0, .int .u8 0, .int .u8 0, .int .u8 0, .int .u8 0, .int .u8 0, .int .u8 0, .int .u8 0, .int .u8 0, .int .u8 0, .int .u8 0, .int .u8 0, .int .u8 0, .int .u8 0, .int .u8 0, .int .u8 0, .int .u8 0, .int .u8 0, .int .u8 0, .int .u8 0, .int .u8 0, .int .u8 0, .int .u8 0, .int .u8 0, .int .u8 0, .int .u8 0, .int .u8 0, .int .u8 0, .int .u8 0], false⟩ := rfl
theorem look195 : look tyL 195 = some ⟨.array 64 5, 64, 64, [.int .u8 0, .int .u8 0, .int .u8 0, .int .u8 0, .int .u8 0, .int .u8 0, .int .u8 0, .int .u8 0, .int .u8 0, .int .u8 0, .int .u8 0, .int .u8 0, .int .u8 0, .int .u8 0, .int .u8 0, .int .u8 0, .int .u8 0, .int .u8 0, .int .u8 0, .int .u8 0, .int .u8 0, .int .u8 0, .int .u8 0, .int .u8 0, .int .u8 0, .int .u8 0, .int .u8 0, .int .u8 0, .int .u8 0, .int .u8 0, .int .u8 0, .int .u8 0, .int .u8 0, .int .u8 0, .int .u8 0, .int .u8 0, .int .u8 0, .int .u8 0, .int .u8 0, .int .u8 0, .int .u8 0, .int .u8 0, .int .u8 0, .int .u8 0, .int .u8 0, .int .u8 0, .int .u8 0, .int .u8 0, .int .u8 0, .int .u8 0, .int .u8 0, .int .u8 0, .int .u8 0, .int .u8 0, .int .u8 0, .int .u8 0, .int .u8 0, .int .u8 0, .int .u8 0, .int .u8 0, .int .u8 0, .int .u8 0, .int .u8 0, .int .u8 0], false⟩ := rfl
theorem look196 : look tyL 196 = some ⟨.struct [(0, 17), (1, 17), (2, 17), (3, 9)], 4, 40, [.pointer none, .pointer none, .pointer none, .string .empty], false⟩ := rfl
theorem look197 : look tyL 197 = some ⟨.struct [(0, 17), (1, 17), (2, 17), (3, 9)], 4, 40, [.pointer none, .pointer none, .pointer none, .string .empty], false⟩ := rfl
theorem look201 : look tyL 201 = some ⟨.func, 1, 8, [.nilFunc], false⟩ := rfl
theorem look202 : look tyL 202 = some ⟨.int .u8, 1, 1, [.int .u8 0], false⟩ := rfl
theorem look203 : look tyL 203 = some ⟨.int .u8, 1, 1, [.int .u8 0], false⟩ := rfl
theorem look204 : look tyL 204 = some ⟨.func, 1, 8, [.nilFunc], false⟩ := rfl
theorem look205 : look tyL 205 = some ⟨.int .i32, 1, 4, [.int .i32 0], false⟩ := rfl
theorem look206 : look tyL 206 = some ⟨.int .i32, 1, 4, [.int .i32 0], false⟩ := rfl
theorem look207 : look tyL 207 = some ⟨.struct [(0, 12), (1, 12), (2, 187), (3, 202), (4, 5), (5, 5), (6, 203), (7, 204), (8, 110), (9, 205), (10, 206)], 11, 48, [.int .u64 0, .int .u64 0, .int .u32 0, .int .u8 0, .int .u8 0, .int .u8 0, .int .u8 0, .nilFunc, .pointer none, .int .i32 0, .int .i32 0], false⟩ := rfl
theorem look208 : look tyL 208 = some ⟨.struct [(0, 12), (1, 12), (2, 187), (3, 202), (4, 5), (5, 5), (6, 203), (7, 204), (8, 110), (9, 205), (10, 206)], 11, 48, [.int .u64 0, .int .u64 0, .int .u32 0, .int .u8 0, .int .u8 0, .int .u8 0, .int .u8 0, .nilFunc, .pointer none, .int .i32 0, .int .i32 0], false⟩ := rfl
end Go.Pm
/- The program of this seat for the abstract machine, with what its package-level variables hold. -/
set_option linter.unusedVariables false
namespace Go.Pm
def kwBytes : List (List UInt8) := [[97, 110, 100], [98, 111, 111, 108], [101, 108, 115, 101], [102, 97, 108, 115, 101], [102, 98, 121], [105, 102], [105, 110, 116], [108, 101, 116], [109, 101, 114, 103, 101], [109, 111, 100], [110, 111, 100, 101], [110, 111, 116], [111, 114], [114, 101, 116, 117, 114, 110, 115], [116, 101, 108], [116, 104, 101, 110], [116, 114, 117, 101], [118, 97, 114], [119, 104, 101, 110], [119, 104, 101, 110, 111, 116], [120, 111, 114]]
def kwS : List ByteArray := kwBytes.map fun l => ⟨l.toArray⟩
def otMap : List (Value × D) := otS.map fun y => (.int .i64 y.1, .s (.string y.2))
def pow10L : List Int := (List.range 20).map fun k => (10 : Int) ^ k
def gl (g : Nat) : Option (List D) := if g = 1 then some [.mp .string (wordMap kwS)] else if g = 0 then some [.mp (.int .i64) otMap] else if g = 3 then some (pow10L.map fun n => .s (.int .u64 n)) else none
noncomputable def X : Cfg := mkCfg Go.Proofs.Tryd.prog gl tyL tyL_ok
theorem X_mixed : X.P.follows .mixedOrders = true := by kernel_rfl
@[simp] theorem X_T (t : TypeId) : X.T t = look tyL t := rfl
@[simp] theorem X_G (g : Nat) : X.G g = gl g := rfl
end Go.Pm
/- The readings of this seat's types, and its listed variables. -/
set_option linter.unusedVariables false
set_option linter.unusedSimpArgs false
namespace Go.Pm
open Go.Proofs
section
variable {H : Type} {en : TypeId × Value → H} {w : World} {base : Nat} {spare : Nat → Bool} {held : Bool}
theorem rdStr : Rd en Tryd.prog w base spare held 9 eStr dStr := rd_map id (fun _ => rfl) (fun _ h => h) (rd_string (by kernel_rfl))
theorem rdStrs : Rd en Tryd.prog w base spare held 42 (fun l : List ByteArray => [.im (l.map eStr)]) (dL dStr) := rd_map id (fun _ => rfl) (fun _ h => h) (rd_slice (sz := 1) (by kernel_rfl) rdStr (by kernel_rfl) (by decide) (fun _ => rfl))
theorem rdInt : Rd en Tryd.prog w base spare held 3 (fun n : Int => [.s (.int .i64 n)]) (fun _ => True) := rd_int (by kernel_rfl)
theorem rdBool : Rd en Tryd.prog w base spare held 4 (fun b : Bool => [.s (.bool b)]) (fun _ => True) := rd_bool (by kernel_rfl)
theorem rdCnd : Rd en Tryd.prog w base spare held 180 eCnd dCnd :=
  rd_map (fun p : ByteArray × Bool × Unit => (⟨p.1, p.2.1⟩ : Cnd)) (fun _ => rfl) (fun _ h => h.1)
    (rd_structG (n := 2) (by kernel_rfl) (by kernel_rfl) (fun _ => rfl) (rdG_cons 1 rdStr (fun _ => rfl) (rdG_cons 1 rdBool (fun _ => rfl) rdG_nil)))
theorem rdItm : Rd en Tryd.prog w base spare held 182 eItm dItm :=
  rd_map (fun p : Int × Int × ByteArray × Unit => (⟨p.1, p.2.1, p.2.2.1⟩ : Itm)) (fun _ => rfl) (fun _ h => h.2.2.1)
    (rd_structG (n := 3) (by kernel_rfl) (by kernel_rfl) (fun _ => rfl) (rdG_cons 1 rdInt (fun _ => rfl) (rdG_cons 1 rdInt (fun _ => rfl) (rdG_cons 1 rdStr (fun _ => rfl) rdG_nil))))
theorem rdCnds : Rd en Tryd.prog w base spare held 146 (fun l : List Cnd => [.im (l.map eCnd)]) (dL dCnd) := rd_map id (fun _ => rfl) (fun _ h => h) (rd_slice (sz := 2) (by kernel_rfl) rdCnd (by kernel_rfl) (by decide) (fun _ => rfl))
theorem rdItms : Rd en Tryd.prog w base spare held 150 eItms (dL dItm) := rd_map id (fun _ => rfl) (fun _ h => h) (rd_slice (sz := 3) (by kernel_rfl) rdItm (by kernel_rfl) (by decide) (fun _ => rfl))
theorem rdItmss : Rd en Tryd.prog w base spare held 151 (fun l : List (List Itm) => [.im (l.map eItms)]) (dL (dL dItm)) := rd_map id (fun _ => rfl) (fun _ h => h) (rd_slice (sz := 1) (by kernel_rfl) rdItms (by kernel_rfl) (by decide) (fun _ => rfl))
theorem rdVr : Rd en Tryd.prog w base spare held 148 eVr dVr :=
  rd_map (fun p : ByteArray × Int × List Cnd × Unit => (⟨p.1, p.2.1, p.2.2.1⟩ : Vr)) (fun _ => rfl) (fun _ h => ⟨h.1, h.2.2.1⟩)
    (rd_structG (n := 3) (by kernel_rfl) (by kernel_rfl) (fun _ => rfl) (rdG_cons 1 rdStr (fun _ => rfl) (rdG_cons 1 rdInt (fun _ => rfl) (rdG_cons 1 rdCnds (fun _ => rfl) rdG_nil))))
theorem rdVrs : Rd en Tryd.prog w base spare held 90 (fun l : List Vr => [.im (l.map eVr)]) (dL dVr) := rd_map id (fun _ => rfl) (fun _ h => h) (rd_slice (sz := 3) (by kernel_rfl) rdVr (by kernel_rfl) (by decide) (fun _ => rfl))
theorem rdEqn : Rd en Tryd.prog w base spare held 153 eEqn dEqn :=
  rd_map (fun p : List ByteArray × List Itm × ByteArray × List (List Itm) × Unit => (⟨p.1, p.2.1, p.2.2.1, p.2.2.2.1⟩ : Eqn)) (fun _ => rfl) (fun _ h => ⟨h.1, h.2.1, h.2.2.1, h.2.2.2.1⟩)
    (rd_structG (n := 4) (by kernel_rfl) (by kernel_rfl) (fun _ => rfl) (rdG_cons 1 rdStrs (fun _ => rfl) (rdG_cons 1 rdItms (fun _ => rfl) (rdG_cons 1 rdStr (fun _ => rfl) (rdG_cons 1 rdItmss (fun _ => rfl) rdG_nil)))))
theorem rdEqns : Rd en Tryd.prog w base spare held 91 (fun l : List Eqn => [.im (l.map eEqn)]) (dL dEqn) := rd_map id (fun _ => rfl) (fun _ h => h) (rd_slice (sz := 4) (by kernel_rfl) rdEqn (by kernel_rfl) (by decide) (fun _ => rfl))
theorem rdNod : Rd en Tryd.prog w base spare held 93 eNod dNod :=
  rd_map (fun p : ByteArray × List Vr × List Vr × List Vr × List Eqn × Unit => (⟨p.1, p.2.1, p.2.2.1, p.2.2.2.1, p.2.2.2.2.1⟩ : Nod)) (fun _ => rfl) (fun _ h => ⟨h.1, h.2.1, h.2.2.1, h.2.2.2.1, h.2.2.2.2.1⟩)
    (rd_structG (n := 5) (by kernel_rfl) (by kernel_rfl) (fun _ => rfl) (rdG_cons 1 rdStr (fun _ => rfl) (rdG_cons 1 rdVrs (fun _ => rfl) (rdG_cons 1 rdVrs (fun _ => rfl) (rdG_cons 1 rdVrs (fun _ => rfl) (rdG_cons 1 rdEqns (fun _ => rfl) rdG_nil))))))
theorem rdNods : Rd en Tryd.prog w base spare held 22 (fun l : List Nod => [.im (l.map eNod)]) (dL dNod) := rd_map id (fun _ => rfl) (fun _ h => h) (rd_slice (sz := 5) (by kernel_rfl) rdNod (by kernel_rfl) (by decide) (fun _ => rfl))
theorem rdProg : Rd en Tryd.prog w base spare held 24 (fun l : List Nod => [.im (l.map eNod)]) (dL dNod) :=
  rd_map (fun p : List Nod × Unit => p.1) (fun _ => rfl) (fun _ h => h.1)
    (rd_structG (n := 1) (by kernel_rfl) (by kernel_rfl) (fun _ => rfl) (rdG_cons 1 rdNods (fun _ => rfl) rdG_nil))
end
def kwLaid : List (Lit × DataW Unit) := mapEnts YtljgefnmbpmjmaaDoor.Rows.laid_loop_example_s0043_impl_keywords
theorem kw_lit : litMap kwLaid = wordMap kwS := by kernel_rfl
theorem kw_fit : ((litMap kwLaid).all fun y => keyFit .string y.1) = true := by kernel_rfl
theorem kw_dist : distB ((litMap kwLaid).map (·.1)) = true := by kernel_rfl
def otLaid : List (Lit × DataW Unit) := mapEnts YtljgefnmbpmjmaaDoor.Rows.laid_loop_example_s0043_impl_opText
theorem ot_lit : litMap otLaid = otMap := by kernel_rfl
theorem ot_fit : ((litMap otLaid).all fun y => keyFit (.int .i64) y.1) = true := by kernel_rfl
theorem ot_dist : distB ((litMap otLaid).map (·.1)) = true := by kernel_rfl
def laidL {H : Type} : List (String × DataW H) := [("math/bits.deBruijn32tab", YtljgefnmbpmjmaaDoor.Rows.laid_math_bits_deBruijn32tab), ("math/bits.deBruijn64tab", YtljgefnmbpmjmaaDoor.Rows.laid_math_bits_deBruijn64tab), ("internal/strconv.uint64pow10", YtljgefnmbpmjmaaDoor.Rows.laid_internal_strconv_uint64pow10), ("loop.example/s0043/impl.keywords", YtljgefnmbpmjmaaDoor.Rows.laid_loop_example_s0043_impl_keywords), ("loop.example/s0043/impl.opText", YtljgefnmbpmjmaaDoor.Rows.laid_loop_example_s0043_impl_opText)]
theorem pow_laid {H : Type} : (YtljgefnmbpmjmaaDoor.Rows.laid_internal_strconv_uint64pow10 : DataW H) = .agg (pow10L.map fun m => .lit (.int .u64 m)) := by kernel_rfl
theorem type_at {g g0 : Nat} {n : String} {t t0 : TypeId} (h1 : Tryd.prog.globalNamed n = some g) (h2 : (Tryd.prog.globals[g]?).map (·.type) = some t) (hg : Tryd.prog.globalNamed n = some g0) (ht : (Tryd.prog.globals[g0]?).map (·.type) = some t0) : t0 = t := by
  obtain rfl := Option.some.inj (h1.symm.trans hg)
  exact Option.some.inj (ht.symm.trans h2)
theorem glob_ok {W : World} (h : laidMetH Tryd.prog laidL W) : GRel X (FW W) := by
  rw [MakeChecks.laidMetH_plain _ _ _ (by kernel_rfl)] at h
  obtain ⟨ps, ⟨_, _, _, _, _, _, _, _, _, _, hr, _⟩, _, _⟩ := h
  obtain ⟨_, _, _, _, _, _, _, _, _, _, hr, _⟩ := hr
  obtain ⟨g2, t2, cs2, f2, p2, q2, hg2, ht2, hv2, hd2, hr, _⟩ := hr
  obtain ⟨g0, t0, cs0, f0, p0, q0, hg0, ht0, hv0, hd0, hr, _⟩ := hr
  obtain ⟨g1, t1, cs1, f1, p1, q1, hg1, ht1, hv1, hd1, hr, _⟩ := hr
  have n2 : Tryd.prog.globalNamed "internal/strconv.uint64pow10" = some 3 := by kernel_rfl
  have n0 : Tryd.prog.globalNamed "loop.example/s0043/impl.keywords" = some 1 := by kernel_rfl
  have n1 : Tryd.prog.globalNamed "loop.example/s0043/impl.opText" = some 0 := by kernel_rfl
  obtain rfl := type_at n2 (t := 186) (by kernel_rfl) hg2 ht2
  obtain rfl := type_at n0 (t := 85) (by kernel_rfl) hg0 ht0
  obtain rfl := type_at n1 (t := 109) (by kernel_rfl) hg1 ht1
  have k2 := ent_vars hg2 n2 hv2 (ent_lits (k := .u64) (el := 171) (n := 20) (ns := pow10L) (by kernel_rfl) (by kernel_rfl) (by kernel_rfl) (by kernel_rfl) (by rw [hd2, pow_laid]))
  obtain ⟨v, hc, ho, hx⟩ := ent_map (kk := .string) (k := 9) (e := 4) (by kernel_rfl) (.inl (by kernel_rfl)) (.inl (by kernel_rfl)) kw_fit kw_dist (show DataW.trod _ _ _ _ _ _ _ _ _ = some (.map kwLaid, p0) from hd0)
  rw [kw_lit] at hx
  have k0 := ent_var hg0 n0 hv0 hc ho hx
  obtain ⟨v1, hc1, ho1, hx1⟩ := ent_map (kk := .int .i64) (k := 3) (e := 9) (by kernel_rfl) (.inr (by kernel_rfl)) (.inr (.inl (by kernel_rfl))) ot_fit ot_dist (show DataW.trod _ _ _ _ _ _ _ _ _ = some (.map otLaid, p1) from hd1)
  rw [ot_lit] at hx1
  have k1 := ent_var hg1 n1 hv1 hc1 ho1 hx1
  intro g cells hg
  simp only [X_G, gl] at hg
  split at hg
  · rename_i hg'
    subst hg'
    cases hg
    exact k0
  split at hg
  · rename_i hg'
    subst hg'
    cases hg
    exact k1
  split at hg
  · rename_i hg'
    subst hg'
    cases hg
    exact k2
  · cases hg
end Go.Pm
