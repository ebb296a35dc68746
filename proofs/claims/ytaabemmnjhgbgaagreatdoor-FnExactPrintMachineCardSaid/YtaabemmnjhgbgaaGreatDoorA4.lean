/- The abstract machine, thirty-second text: a struct that is allotted as a row of its own kind. -/
import Derived.Test.YtaabemmnjhgbgaaGreatDoorA3
import Derived.Sort.Grow
import Derived.Deep.Draws
import Derived.Laws.IdiomStrings
import Derived.Test.YtaabemmnjhgbgaaGreatDoorA2
set_option linter.unusedVariables false
set_option linter.unusedSimpArgs false
namespace Go.Pm
section
variable {X : Cfg} {nt : Nat} {ops : Array Oper} {rest : List Oper} {Q : Exit → Env → St → Prop} {env : Env} {σ : St} {dst : Option Tmp} {op : Op} {ty : TypeId} {pos : String} {after : Array Edge}
theorem ar_opok (hd : dst.all (· < nt) = true) (h : ∀ (F : FH) (η : Et) (a : Act) (w : World), GRel X F → Rel F η nt env σ a w → OpOk X F η σ w ((execOp a.eval ⟨dst, op, ty, pos, after, none⟩).run X.P w) (fun v σ' => AR X nt ops Q rest (put env dst v) σ')) :
    AR X nt ops Q (⟨dst, op, ty, pos, after, none⟩ :: rest) env σ := by
  intro F η a w hg hr
  unfold wpList
  rw [if_pos (by simp [Region.wanted])]
  refine .inl ?_
  obtain ⟨nx, v, w', F', η', σ', x, hrun, hnx, hs, hg', hf', hr', hv, hk⟩ := h F η a w hg hr
  unfold Oper.wp
  rw [hrun]
  have hr2 := hr.step hs hf' hr'
  rcases hnx with rfl | ⟨rfl, rfl⟩
  · exact wpList_mono (fun _ _ _ hp => hp.of_step hs) rest _ _ (hk F' η' (a.put dst v) w' hg' (hr2.put hd hv))
  · exact wpList_mono (fun _ _ _ hp => hp.of_step hs) rest _ _ (hk F' η' (a.put dst undef) w' hg' (hr2.put hd hv))
theorem alloc_row {F : FH} {η : Et} {w : World} {K : AV → St → Prop} (hg : GRel X F) (hf : FRel F w) (hs : SRel F η σ w) {E sz : Nat} {ti : TI} (ht : X.T E = some ti) (hsz : ti.size = sz) (hp : 0 < sz)
    (hk : K (.ep σ.next σ.next 0 0) (σ.alloc (.row σ.next E sz [zrow ti]))) : VOk X F η σ w ((Instr.alloc E true (.tuple #[])).run X.P w) K := by
  subst hsz
  obtain ⟨d, i, z, hu, hd, hi, hsz, hby, hz, hzc, hzl, hz1, hzn, hza⟩ := X.ok E ti ht
  have hzr : (zrow ti).length = ti.size := by simp [zrow, hzl]
  have hcs : z.cells.size = ti.size := by rw [hzc]; simp [hzl]
  obtain ⟨η', s1, s2, s3, hh⟩ := new_row hf hs E ti.size [zrow ti] z.cells 1 hp (by unfold maxLen; omega) (by omega) (by simp) (fun r hr => by simp only [List.mem_singleton] at hr; subst hr; exact hzr) (fun j hj => by
      rw [hzc]; exact zero_one hz1 j (by simp only [List.length_singleton, Nat.one_mul] at hj; omega)) (fun k hk j hj => by
      have : k = 0 := by simpa using hk
      subst this
      simp only [List.getElem_cons_zero] at hj ⊢
      rw [Nat.zero_mul, Nat.zero_add, hzc]
      exact zrow_rel j hj)
  refine ⟨.pointer (some ⟨w.heap.size, 0, none⟩), _, F, η', _, .ep σ.next σ.next 0 0, ?_, s1, hg, s2, s3, ?_, hk⟩
  · simp [Instr.alloc, zeroValue, typeInfo, hi, hz, newVar, newRow]
  · have := @VRel.ep F η' (σ.next + 1) σ.next σ.next 0 0 w.heap.size 1 ti.size (by omega) (by omega) hh
    simpa using this
/-- A struct of its own, behind a pointer into a row. -/
theorem Uf {e n sz : Nat} {ti : TI} {zr : List AV} (h : AR X nt ops Q rest (put env dst (.ep n n 0 0)) (σ.alloc (.row n e sz [zr]))) (hd : dst.all (· < nt) = true := by exact rfl) (ht : X.T e = some ti := by exact rfl) (hsz : ti.size = sz := by exact rfl) (hp : Nat.blt 0 sz = true := by exact rfl) (hz : listF (zrow ti) = some zr := by exact rfl) (hn : σ.next = n := by exact rfl) :
    AR X nt ops Q (⟨dst, .alloc e, ty, pos, after, none⟩ :: rest) env σ := by
  subst hn
  have hz := listF_eq hz
  subst hz
  exact ar_opok hd fun F η a w hg hr => (alloc_row hg hr.fr hr.st ht hsz (blt_lt hp) h).op
end
end Go.Pm
/- The abstract machine, thirty-third text: structs whose block is known to the letter; objects that are given up; functions that are known from elsewhere. -/
set_option linter.unusedVariables false
set_option linter.unusedSimpArgs false
namespace Go.Pm
theorem new_iter {F : FH} {η : Et} {σ : St} {w : World} (hf : FRel F w) (hs : SRel F η σ w) (o : Obj) :
    ∃ η', Step F η σ w F η' (σ.alloc (.iter o)) (w.alloc o) ∧ FRel F (w.alloc o) ∧ SRel F η' (σ.alloc (.iter o)) (w.alloc o) ∧ η'.blk σ.next = w.heap.size := by
  have ha := Et.agree_withBlk η σ.next w.heap.size
  have hblk : (η.withBlk σ.next w.heap.size).blk σ.next = w.heap.size := by simp [Et.withBlk]
  obtain ⟨g1, g2, g3⟩ := upd (η' := η.withBlk σ.next w.heap.size) (w' := w.alloc o) hf hs σ.next (.iter o) (σ.next + 1) (Nat.lt_succ_self _) (Nat.le_succ _) ha ⟨by simp, rfl, rfl⟩
    (fun b hb _ => heap_alloc_old w _ hb) (.iter (by rw [hblk]; exact heap_alloc_new w _))
    (fun b hb hlt => by simp only [own, hblk, Option.some.injEq] at hb; omega)
  exact ⟨_, g1, g2, g3, hblk⟩
section
variable {X : Cfg} {nt : Nat} {ops : Array Oper} {rest : List Oper} {Q : Exit → Env → St → Prop} {env : Env} {σ : St} {dst : Option Tmp} {op : Op} {ty : TypeId} {pos : String} {after : Array Edge}
theorem alloc_iter {F : FH} {η : Et} {w : World} {K : AV → St → Prop} (hg : GRel X F) (hf : FRel F w) (hs : SRel F η σ w) {E : Nat} {ti : TI} (ht : X.T E = some ti)
    (hk : K (.ref σ.next 0) (σ.alloc (.iter (.cells ti.zero.toArray E)))) : VOk X F η σ w ((Instr.alloc E true (.tuple #[])).run X.P w) K := by
  obtain ⟨d, i, z, hu, hd, hi, hsz, hby, hz, hzc, hzl, hz1, hzn, hza⟩ := X.ok E ti ht
  obtain ⟨η', s1, s2, s3, hb⟩ := new_iter hf hs (.cells ti.zero.toArray E)
  refine ⟨.pointer (some ⟨w.heap.size, 0, none⟩), _, F, η', _, .ref σ.next 0, ?_, s1, hg, s2, s3, ?_, hk⟩
  · simp [Instr.alloc, zeroValue, typeInfo, hi, hz, newVar, newRow, hzc]
  · rw [← hb]; exact .ref (Nat.lt_succ_self _)
/-- A struct of its own whose block is known to the letter. -/
theorem Ug {e n : Nat} {ti : TI} {z : Array Value} (h : AR X nt ops Q rest (put env dst (.ref n 0)) (σ.alloc (.iter (.cells z e)))) (hd : dst.all (· < nt) = true := by exact rfl) (ht : X.T e = some ti := by exact rfl) (hz : ti.zero.toArray = z := by exact rfl) (hn : σ.next = n := by exact rfl) :
    AR X nt ops Q (⟨dst, .alloc e, ty, pos, after, none⟩ :: rest) env σ := by
  subst hn
  subst hz
  exact ar_opok hd fun F η a w hg hr => (alloc_iter hg hr.fr hr.st ht h).op
end
def St.drop (σ : St) (r : Nat) : St := ⟨fun j => if j = r then none else σ.obj j, σ.next⟩
theorem St.obj_drop (σ : St) (r j : Nat) : (σ.drop r).obj j = if j = r then none else σ.obj j := rfl
/-- An object is given up; of what was there its block alone may turn. -/
theorem drop_step {F : FH} {η : Et} {σ : St} {w w' : World} (hf : FRel F w) (hs : SRel F η σ w) {r : Nat} {o : AO} (ho : σ.obj r = some o) (hm : More w w') (hh : ∀ b, own η r o ≠ some b → b < w.heap.size → w'.heap[b]? = w.heap[b]?) :
    Step F η σ w F η (σ.drop r) w' ∧ FRel F w' ∧ SRel F η (σ.drop r) w' := by
  have keep : ∀ i oi, (σ.drop r).obj i = some oi → σ.obj i = some oi ∧ i ≠ r := by
    intro i oi h
    rw [St.obj_drop] at h
    split at h
    · cases h
    · rename_i hi; exact ⟨h, hi⟩
  refine ⟨⟨F.le_refl, Et.agree_refl _ _, Nat.le_refl _, hm, ?_, ?_, fun _ _ h _ => .inl h⟩, ?_, ⟨?_, ?_, ?_, ?_⟩⟩
  · exact fun b hb hno => hh b (hno r o ho) hb
  · intro i oi b hi hb _
    exact ⟨i, oi, (keep i oi hi).1, hb⟩
  · intro b ob hb
    have h0 := hf b ob hb
    have hlt : b < w.heap.size := by
      rcases Nat.lt_or_ge b w.heap.size with h | h
      · exact h
      · rw [Array.getElem?_eq_none (by omega)] at h0; cases h0
    rw [hh b (fun e => by have := hs.fr r o b ho e; rw [this] at hb; cases hb) hlt]
    exact h0
  · intro i oi hi; exact hs.lt i oi (keep i oi hi).1
  · intro i oi hi
    obtain ⟨h1, h2⟩ := keep i oi hi
    refine (hs.ob i oi h1).mono (hs.lt i oi h1) F.le_refl (Et.agree_refl _ _) (Nat.le_refl _) fun b hb => ?_
    exact hh b (fun e => h2 (hs.ap i r oi o b h1 ho hb e)) ((hs.ob i oi h1).own_lt hb)
  · intro i j oi oj b hi hj; exact hs.ap i j oi oj b (keep i oi hi).1 (keep j oj hj).1
  · intro i oi b hi; exact hs.fr i oi b (keep i oi hi).1
/-- A function of one word that makes blocks and gives a word. -/
theorem PFun.ext1 {X : Cfg} {f : FuncId} {u v : Value} (hc : CallOk X.P f) (h : ∀ (F : FH) (w : World), GRel X F → FRel F w → Calls X.P f #[u] w fun e w' => e = .returned v ∧ ∃ k os, w' = Sort.grow (w.drewN k) os) : PFun X f [.d (.s u)] (.d (.s v)) := by
  refine ⟨rfl, rfl, hc, fun F η w vals hg hf hs hn hv => ?_⟩
  have h0 := (hv 0 (by simp)).s_inv
  have hvals : vals = #[u] := by
    obtain ⟨l⟩ := vals
    match l, hn, h0 with
    | [y], _, h0 => simp [Array.getD] at h0; rw [h0]
  rw [hvals]
  refine (h F w hg hf).mono ?_
  rintro e w' ⟨rfl, k, os, rfl⟩
  have hh : ∀ b, b < w.heap.size → (Sort.grow (w.drewN k) os).heap[b]? = w.heap[b]? := by
    intro b hb
    show (w.heap ++ os)[b]? = w.heap[b]?
    rw [Array.getElem?_append_left hb]
  refine ⟨F, η, St.nil, .ret (.d (.s v)), ⟨F.le_refl, Et.agree_refl _ _, Nat.le_refl _, ⟨?_, rfl, rfl⟩, fun b hb _ => hh b hb, fun i o b ho hb _ => by simp [St.nil] at ho, fun b o hb _ => .inl hb⟩, ?_, SRel.nil _ _ _, .d (.s _), rfl⟩
  · show w.heap.size ≤ (w.heap ++ os).size
    simp
  · intro b o hb
    have h1 := hf b o hb
    have hlt : b < w.heap.size := by
      rcases Nat.lt_or_ge b w.heap.size with h | h
      · exact h
      · rw [Array.getElem?_eq_none (by omega)] at h1; cases h1
    rw [hh b hlt]; exact h1
end Go.Pm
/- The abstract machine, thirty-fourth text: rows of bytes, and strings put behind them. -/
set_option linter.unusedVariables false
set_option linter.unusedSimpArgs false
namespace Go.Pm
theorem bytes_app (t s : ByteArray) : (t ++ s).data.toList = t.data.toList ++ s.data.toList := by
  rw [ByteArray.data_append, Array.toList_append]
theorem byteRows_app (t s : ByteArray) : byteRows (t ++ s) = byteRows t ++ byteRows s := by
  unfold byteRows; rw [bytes_app, List.map_append]
theorem byteRows_low (s : ByteArray) (n : Nat) : ∀ r ∈ byteRows s, lows n r = true := by
  intro r hr
  obtain ⟨b, _, rfl⟩ := List.mem_map.1 hr
  rfl
theorem byteRows_ren (π : Nat → Nat) (s : ByteArray) : (byteRows s).map (rens π) = byteRows s := by
  unfold byteRows
  rw [List.map_map]
  rfl
attribute [local irreducible] AR Ok inBlock andThen endQ aoper
section
variable {X : Cfg} {nt : Nat} {Q : Exit → Env → St → Prop} {env : Env} {σ : St} {K : AV → St → Prop}
/-- A string behind a nil slice of bytes. -/
theorem Uh {ars : Array Operand} {ts : Array TypeId} {s x : Operand} {t tx el n : Nat} {ti te tix : TI} {u : ByteArray} (hb : u.size ≤ 140737488355328) (h : K (.sl n n 0 u.size) (σ.alloc (.row n el 1 (byteRows u))))
    (h1 : ars.toList = [s, x] := by exact rfl) (h2 : ts.toList = [t, tx] := by exact rfl) (hs : aev X env s = .d (.s (.slice none 0 0)) := by exact rfl) (hx : aev X env x = vs u := by exact rfl) (ht : X.T t = some ti := by exact rfl) (hk : ti.kind = .slice el := by exact rfl) (hte : X.T el = some te := by exact rfl) (hsz : te.size = 1 := by exact rfl) (hby : te.bytes = 1 := by exact rfl)
    (htx : X.T tx = some tix := by exact rfl) (hkx : tix.kind = .string := by exact rfl) (hn : σ.next = n := by exact rfl) : aoper X (.call ⟨.builtin .append, ars, ts⟩) env σ Q K := by
  subst hn
  simp only [aoper, abuiltin]
  rw [h1, h2]
  simp only [aappend]
  refine ⟨ti, ht, el, te, hk, hte, by omega, by omega, tix, htx, byteRows u, ?_, ?_, ?_⟩
  · rw [hkx, hx, hsz]; simp [srcOf]
  · intro r hr; rw [hsz]; obtain ⟨b, _, rfl⟩ := List.mem_map.1 hr; rfl
  · rw [hs, byteRows_length, hsz, hby]
    exact ⟨by omega, h⟩
/-- A string behind a row of bytes. -/
theorem Ui {ars : Array Operand} {ts : Array TypeId} {s x : Operand} {t tx el i v n : Nat} {ti te tix : TI} {w u : ByteArray} (ho : σ.obj i = some (.row v el 1 (byteRows w))) (hb : (w ++ u).size ≤ 140737488355328) (h : K (.sl i n 0 (w ++ u).size) (bumpSet σ i (.row n el 1 (byteRows (w ++ u)))))
    (h1 : ars.toList = [s, x] := by exact rfl) (h2 : ts.toList = [t, tx] := by exact rfl) (hs : aev X env s = .sl i v 0 w.size := by exact rfl) (hx : aev X env x = vs u := by exact rfl) (ht : X.T t = some ti := by exact rfl) (hk : ti.kind = .slice el := by exact rfl) (hte : X.T el = some te := by exact rfl) (hsz : te.size = 1 := by exact rfl) (hby : te.bytes = 1 := by exact rfl)
    (htx : X.T tx = some tix := by exact rfl) (hkx : tix.kind = .string := by exact rfl) (hn : σ.next = n := by exact rfl) : aoper X (.call ⟨.builtin .append, ars, ts⟩) env σ Q K := by
  subst hn
  simp only [aoper, abuiltin]
  rw [h1, h2]
  simp only [aappend]
  have hl : (byteRows w).length = w.size := byteRows_length w
  rw [ByteArray.size_append] at h hb
  refine ⟨ti, ht, el, te, hk, hte, by omega, by omega, tix, htx, byteRows u, ?_, ?_, ?_⟩
  · rw [hkx, hx, hsz]; simp [srcOf]
  · intro r hr; rw [hsz]; obtain ⟨b, _, rfl⟩ := List.mem_map.1 hr; rfl
  · rw [hs, byteRows_length, hsz, hby]
    refine ⟨rfl, byteRows w, ho, by omega, by omega, ?_⟩
    rw [List.take_of_length_le (by omega), ← byteRows_app]
    exact h
end
end Go.Pm
/- The abstract machine, thirty-fifth text: the end of a call under other numbers; what a call does to a text under way. -/
set_option linter.unusedVariables false
set_option linter.unusedSimpArgs false
namespace Go.Pm
theorem St.ext' {a b : St} (h1 : a.obj = b.obj) (h2 : a.next = b.next) : a = b := by
  cases a; cases b; cases h1; cases h2; rfl
/-- What is known of a call's end, under other numbers. -/
theorem AFun.lowR {X : Cfg} {f : FuncId} {args : List AV} {σ : St} {K K' : AEnd → St → Prop} (h : AFun X f args σ K)
    (hk : ∀ E σ1, K E σ1 → ∃ σ2 π r, K' (.ret r) σ2 ∧ LowR σ.next π (fun _ => .any) σ1 (fun _ => .any) σ2 ∧ E = .ret (ren π r) ∧ Pm.low σ2.next r = true) : AFun X f args σ K' := by
  refine ⟨h.1, fun F η w vals hg hf hs hn hv => (h.2 F η w vals hg hf hs hn hv).mono ?_⟩
  rintro e w' ⟨F', η', σ1, E, st, hf', hs1, he, hK⟩
  obtain ⟨σ2, π, r, h1, hl, rfl, hr⟩ := hk E σ1 hK
  refine ⟨F', η'.ren π, σ2, .ret r, hl.step st, hf', ⟨fun i o ho => (hl.ob i o ho).1, fun i o ho => renO_rel (hl.ob i o ho).2.2 (hs1.ob _ _ (hl.ob i o ho).2.1), ?_, fun i o b ho hb => hs1.fr (π i) _ b (hl.ob i o ho).2.1 (by rw [← own_ren]; exact hb)⟩, ?_, h1⟩
  · intro i j oi oj b hi hj hbi hbj
    rw [own_ren] at hbi hbj
    exact hl.inj i j oi oj hi hj (hs1.ap _ _ _ _ b (hl.ob i oi hi).2.1 (hl.ob j oj hj).2.1 hbi hbj)
  · cases e with
    | returned v => exact ren_rel _ _ hr he
    | panicked c => exact he.elim
    | outgrown => exact he.elim
theorem AFun.wfr {X : Cfg} {f : FuncId} {args : List AV} {σ : St} {K : AEnd → St → Prop} (hc : CallOk X.P f) (h : (∀ i o, σ.obj i = some o → i < σ.next) → (∀ i v E sz rows, σ.obj i = some (.row v E sz rows) → v < σ.next) → AFun X f args σ K) : AFun X f args σ K :=
  ⟨hc, fun F η w vals hg hf hs => (h hs.lt fun i v E sz rows ho => by
    have := hs.ob i _ ho
    cases this with
    | row xs hv => exact hv).2 F η w vals hg hf hs⟩
/-- A text under way, in a state of its own. -/
def bdO (u : TypeId) (h : Nat) (t : ByteArray) : List (Option AO) := [some (.var [.ref 0 0, .sl 1 h 0 t.size]), some (.row h u 1 (byteRows t))]
def bdUsed (u : TypeId) (σ : St) (i r : Nat) (s : ByteArray) : St := (bumpSet σ r (.row σ.next u 1 (byteRows s))).set i (.var [.ref i 0, .sl r σ.next 0 s.size])
def bdPi (i r h : Nat) (j : Nat) : Nat := if j = 0 then i else if j = 1 then r else h
theorem bd_lift {X : Cfg} {f : FuncId} {u : TypeId} {args0 args : List AV} {t s : ByteArray} (hc : AFun X f args0 (stL (bdO u 2 t ++ [none])) fun E σ' => E = .ret (.tup []) ∧ σ' = stL (bdO u 3 s ++ [none, none]))
    {σ : St} {i r h : Nat} (ho : σ.obj i = some (.var [.ref i 0, .sl r h 0 t.size])) (hr : σ.obj r = some (.row h u 1 (byteRows t))) (ha : rens (bdPi i r h) args0 = args) (hl : lows 3 args0 = true) :
    AFun X f args σ fun E σ' => E = .ret (.tup []) ∧ σ' = bdUsed u σ i r s := by
  refine AFun.wfr hc.1 fun wf1 wf2 => ?_
  have hi := wf1 i _ ho
  have hrr := wf1 r _ hr
  have hh := wf2 r _ _ _ _ hr
  have hne : i ≠ r := fun e => by rw [e, hr] at ho; cases ho
  let κ : Nat → Option Nat := fun j => if j = i then some 0 else if j = r then some 1 else none
  have obs : ∀ j o, (stL (bdO u 2 t ++ [none])).obj j = some o → (j = 0 ∧ o = .var [.ref 0 0, .sl 1 2 0 t.size]) ∨ (j = 1 ∧ o = .row 2 u 1 (byteRows t)) := by
    intro j o h
    match j, h with
    | 0, h => exact .inl ⟨rfl, (Option.some.inj h).symm⟩
    | 1, h => exact .inr ⟨rfl, (Option.some.inj h).symm⟩
    | 2, h => cases h
    | j + 3, h => simp [stL, bdO] at h
  have key := AFun.frame hc (bdPi i r h) κ (σ := σ) (fun j hj => by unfold bdPi; split; exact hi; split; exact hrr; exact hh)
    (fun j o hjo => by rcases obs j o hjo with ⟨rfl, _⟩ | ⟨rfl, _⟩ <;> (show _ < 3; omega))
    (fun j o hjo => by
      rcases obs j o hjo with ⟨rfl, rfl⟩ | ⟨rfl, rfl⟩
      · exact ⟨ho, rfl⟩
      · refine ⟨?_, ⟨by show 2 < 3; omega, byteRows_low t 3⟩⟩
        show σ.obj r = some (.row h u 1 ((byteRows t).map (rens (bdPi i r h))))
        rw [byteRows_ren]; exact hr)
    (fun j o hjo => by
      rcases obs j o hjo with ⟨rfl, _⟩ | ⟨rfl, _⟩
      · show (if i = i then some 0 else _) = _; rw [if_pos rfl]
      · show (if r = i then some 0 else if r = r then some 1 else none) = _; rw [if_neg (Ne.symm hne), if_pos rfl])
    (fun q j hq => by
      simp only [κ] at hq
      split at hq
      · cases hq; rename_i e; exact ⟨e.symm, by show 0 < 3; omega⟩
      · split at hq
        · cases hq; rename_i e; exact ⟨e.symm, by show 1 < 3; omega⟩
        · cases hq)
    hl
  rw [ha] at key
  refine key.mono ?_
  rintro E σ' ⟨E0, σ1, ⟨rfl, rfl⟩, rfl, rfl⟩
  refine ⟨rfl, ?_⟩
  have e0 : ext 3 σ.next (bdPi i r h) 0 = i := rfl
  have e1 : ext 3 σ.next (bdPi i r h) 1 = r := rfl
  have e3 : ext 3 σ.next (bdPi i r h) 3 = σ.next := by simp [ext]
  have hob : ∀ q, (mrg (stL (bdO u 2 t ++ [none])) σ (bdPi i r h) κ (stL (bdO u 3 s ++ [none, none]))).obj q = (bdUsed u σ i r s).obj q := by
    intro q
    simp only [mrg, bdUsed, St.obj_set, obj_bumpSet]
    by_cases hq : q < σ.next
    · rw [if_pos hq]
      by_cases h1 : q = i
      · have : κ q = some 0 := by simp only [κ]; rw [if_pos h1]
        rw [this, if_pos h1]
        show some (renO (ext 3 σ.next (bdPi i r h)) (.var [.ref 0 0, .sl 1 3 0 s.size])) = _
        simp only [renO, rens, ren, e0, e1, e3]
      · by_cases h2 : q = r
        · have : κ q = some 1 := by simp only [κ]; rw [if_neg h1, if_pos h2]
          rw [this, if_neg h1, if_pos h2]
          show some (renO (ext 3 σ.next (bdPi i r h)) (.row 3 u 1 (byteRows s))) = _
          simp only [renO, e3, byteRows_ren]
        · have : κ q = none := by simp only [κ]; rw [if_neg h1, if_neg h2]
          rw [this, if_neg h1, if_neg h2]
    · rw [if_neg hq, if_neg (by omega), if_neg (by omega)]
      have hno : σ.obj q = none := by
        cases hx : σ.obj q with
        | none => rfl
        | some o => exact absurd (wf1 q o hx) hq
      rw [hno]
      have h3 : (stL (bdO u 3 s ++ [none, none])).obj (q - σ.next + 3) = none := by
        generalize q - σ.next = z
        match z with
        | 0 => rfl
        | z + 1 => simp [stL, bdO]
      show ((stL (bdO u 3 s ++ [none, none])).obj (q - σ.next + 3)).map _ = none
      rw [h3]; rfl
  exact St.ext' (funext hob) rfl
section
variable {X : Cfg} {nt : Nat} {Q : Exit → Env → St → Prop} {env : Env} {σ : St} {K : AV → St → Prop}
attribute [local irreducible] AR Ok inBlock andThen endQ aoper
/-- A string behind a string. -/
theorem Ul {t ty : TypeId} {x y : Operand} {a b : ByteArray} (hK : K (vs (a ++ b)) σ) (hx : aev X env x = vs a := by exact rfl) (hy : aev X env y = vs b := by exact rfl) (hb : (a ++ b).size ≤ 9223372036854775807 := by first | omega | (simp only [ByteArray.size_append]; omega)) : aoper X (.binOp .add t x y ty) env σ Q K := by
  rw [ByteArray.size_append] at hb
  exact op_bin hx hy (by simp only [abin, if_pos hb]) hK
end
end Go.Pm
/- The abstract machine, thirty-sixth text: a string behind a nil slice of bytes; the new row takes a number that is free. -/
set_option linter.unusedVariables false
set_option linter.unusedSimpArgs false
namespace Go.Pm
section
variable {X : Cfg} {nt : Nat} {ops : Array Oper} {rest : List Oper} {Q : Exit → Env → St → Prop} {env : Env} {σ : St} {dst : Option Tmp} {ty : TypeId} {pos : String} {after : Array Edge}
/-- A new row may lie under any free number. -/
theorem move_row {F F' : FH} {η η' : Et} {w w' : World} {r v E sz : Nat} {rows : List (List AV)} (hs : SRel F η σ w) (hr : σ.obj r = none) (hrn : r < σ.next) (st : Step F η σ w F' η' (σ.alloc (.row v E sz rows)) w') (s2 : SRel F' η' (σ.alloc (.row v E sz rows)) w') :
    Step F η σ w F' η' (bumpSet σ r (.row v E sz rows)) w' ∧ SRel F' η' (bumpSet σ r (.row v E sz rows)) w' := by
  have hnone : σ.obj σ.next = none := by
    cases h : σ.obj σ.next with
    | none => rfl
    | some o => exact absurd (hs.lt _ _ h) (Nat.lt_irrefl _)
  have hself : (σ.alloc (.row v E sz rows)).obj σ.next = some (.row v E sz rows) := by rw [St.obj_alloc, if_pos rfl]
  have cas : ∀ i o, (bumpSet σ r (.row v E sz rows)).obj i = some o → (i = r ∧ o = .row v E sz rows) ∨ (i ≠ r ∧ i ≠ σ.next ∧ σ.obj i = some o ∧ (σ.alloc (.row v E sz rows)).obj i = some o) := by
    intro i o h
    rw [obj_bumpSet] at h
    split at h
    · rename_i e; exact .inl ⟨e, (Option.some.inj h).symm⟩
    · rename_i e
      have hne : i ≠ σ.next := fun e2 => by rw [e2, hnone] at h; cases h
      exact .inr ⟨e, hne, h, by rw [St.obj_alloc, if_neg hne]; exact h⟩
  refine ⟨⟨st.fh, st.et, st.nx, st.gr, st.fm, ?_, st.nf⟩, ⟨?_, ?_, ?_, ?_⟩⟩
  · intro i o b hi hb hlt
    rcases cas i o hi with ⟨rfl, rfl⟩ | ⟨_, _, _, h⟩
    · exact st.nw σ.next _ b hself hb hlt
    · exact st.nw i o b h hb hlt
  · intro i o hi
    rcases cas i o hi with ⟨rfl, rfl⟩ | ⟨_, _, h, _⟩
    · exact Nat.lt_succ_of_lt hrn
    · exact Nat.lt_succ_of_lt (hs.lt i o h)
  · intro i o hi
    rcases cas i o hi with ⟨rfl, rfl⟩ | ⟨_, _, _, h⟩
    · have := s2.ob _ _ hself
      cases this with
      | row xs a b c d e f g => exact .row xs a b c d e f g
    · exact s2.ob i o h
  · intro i j oi oj b hi hj hbi hbj
    rcases cas i oi hi with ⟨rfl, rfl⟩ | ⟨n1, m1, _, h1⟩ <;> rcases cas j oj hj with ⟨rfl, rfl⟩ | ⟨n2, m2, _, h2⟩
    · rfl
    · exact absurd (s2.ap σ.next j _ _ b hself h2 hbi hbj).symm m2
    · exact absurd (s2.ap i σ.next _ _ b h1 hself hbi hbj) m1
    · exact s2.ap i j _ _ b h1 h2 hbi hbj
  · intro i o b hi hb
    rcases cas i o hi with ⟨rfl, rfl⟩ | ⟨_, _, _, h⟩
    · exact s2.fr σ.next _ b hself hb
    · exact s2.fr i o b h hb
theorem Um {ars : Array Operand} {ts : Array TypeId} {s x : Operand} {t tx el n r : Nat} {ti te tix : TI} {u : ByteArray} (hr : σ.obj r = none) (hrn : r < σ.next) (hb : u.size ≤ 140737488355328)
    (h : AR X nt ops Q rest (put env dst (.sl r n 0 u.size)) (bumpSet σ r (.row n el 1 (byteRows u))))
    (hd : dst.all (· < nt) = true := by exact rfl) (h1 : ars.toList = [s, x] := by exact rfl) (h2 : ts.toList = [t, tx] := by exact rfl) (hs : aev X env s = .d (.s (.slice none 0 0)) := by exact rfl) (hx : aev X env x = vs u := by exact rfl) (ht : X.T t = some ti := by exact rfl) (hk : ti.kind = .slice el := by exact rfl) (hte : X.T el = some te := by exact rfl) (hsz : te.size = 1 := by exact rfl) (hby : te.bytes = 1 := by exact rfl)
    (htx : X.T tx = some tix := by exact rfl) (hkx : tix.kind = .string := by exact rfl) (hn : σ.next = n := by exact rfl) : AR X nt ops Q (⟨dst, .call ⟨.builtin .append, ars, ts⟩, ty, pos, after, none⟩ :: rest) env σ := by
  subst hn
  refine ar_opok hd fun F η a w hg hr0 => ?_
  have hao : aop X env σ (fun v σ' => v = .sl σ.next σ.next 0 u.size ∧ σ' = σ.alloc (.row σ.next el 1 (byteRows u))) (.call ⟨.builtin .append, ars, ts⟩) := by
    have := Uh (X := X) (Q := fun _ _ _ => False) (env := env) (σ := σ) (K := fun v σ' => v = .sl σ.next σ.next 0 u.size ∧ σ' = σ.alloc (.row σ.next el 1 (byteRows u))) (ars := ars) (ts := ts) hb ⟨rfl, rfl⟩ h1 h2 hs hx ht hk hte hsz hby htx hkx rfl
    simpa only [aoper, aop] using this
  obtain ⟨nx, v, w', F', η', σ', y, hrun, hnx, st, hg', hf', hs', hv, rfl, rfl⟩ := aop_ok (o := ⟨dst, .call ⟨.builtin .append, ars, ts⟩, ty, pos, after, none⟩) hg hr0 hao
  obtain ⟨g1, g2⟩ := move_row hr0.st hr hrn st hs'
  have hrel : ∀ m, VRel F' η' (σ.next + 1) (.sl σ.next σ.next 0 m) v → VRel F' η' (σ.next + 1) (.sl r σ.next 0 m) v := by
    intro m hq
    cases hq with
    | sl q1 q2 hh hle hc hoff => exact .sl (Nat.lt_succ_of_lt hrn) q2 hh hle hc hoff
    | sl0 q1 q2 hh => exact .sl0 (Nat.lt_succ_of_lt hrn) q2 hh
  exact ⟨nx, v, w', F', η', _, .sl r σ.next 0 u.size, hrun, hnx, g1, hg', hf', g2, hrel _ hv, h⟩
end
end Go.Pm
/- The abstract machine, thirty-seventh text: parts of strings; a byte behind a row of bytes; a row of bytes as a string. -/
set_option linter.unusedVariables false
set_option linter.unusedSimpArgs false
namespace Go.Pm
section
variable {X : Cfg} {nt : Nat} {ops : Array Oper} {rest : List Oper} {Q : Exit → Env → St → Prop} {env : Env} {σ : St} {dst : Option Tmp} {ty : TypeId} {pos : String} {after : Array Edge}
/-- A row of bytes as a string. -/
theorem Up {s t el i v n : Nat} {x : Operand} {w : ByteArray} {ts te td : TI} (hn : n = w.size) (ho : σ.obj i = some (.row v el 1 (byteRows w))) (h : AR X nt ops Q rest (put env dst (vs w)) σ)
    (hd : dst.all (· < nt) = true := by exact rfl) (hx : aev X env x = .sl i v 0 n := by exact rfl) (hs : X.T s = some ts := by exact rfl) (hks : ts.kind = .slice el := by exact rfl) (hte : X.T el = some te := by exact rfl) (hke : te.kind = .int .u8 := by exact rfl) (ht : X.T t = some td := by exact rfl) (hkt : td.kind = .string := by exact rfl) :
    AR X nt ops Q (⟨dst, .convert s t x, ty, pos, after, none⟩ :: rest) env σ := by
  subst hn
  refine ar_opok hd fun F η a w0 hg hr0 => ?_
  have hf := hr0.fr
  have hst := hr0.st
  obtain ⟨d1, i1, z1, hu1, hd1, _⟩ := X.ok s ts hs
  obtain ⟨d2, i2, z2, hu2, hd2, _⟩ := X.ok t td ht
  obtain ⟨d3, i3, z3, hu3, hd3, _⟩ := X.ok el te hte
  rw [hks] at hd1
  rw [hkt] at hd2
  rw [hke] at hd3
  have e1 := kind_slice hd1
  have e2 := kind_string hd2
  have e3 := kind_int hd3
  subst e1 e2 e3
  have hev := aev_rel hg hr0 x
  rw [hx] at hev
  have key : (convert s t (a.eval x)).run X.P w0 = .ok (.string w) w0 := by
    generalize a.eval x = vx at hev
    generalize hzz : w.size = z at hev
    have hor := hst.ob i _ ho
    cases hev with
    | @sl _ _ _ _ g cap sz off q1 q2 hh hle hc' hoff =>
      cases hor with
      | row xs b1 b2 b3 b4 b5 b6 b7 =>
        subst hzz
        have hblk : (η.hdr v).blk = some g := by rw [hh]
        obtain ⟨cur, hg1, hn2, hcap1, hsz1, htk⟩ := own_row_blk b4 hblk
        have hcap : (η.hdr v).cap = cap := by rw [hh]
        rw [hcap] at hn2 hcap1 hsz1
        rw [byteRows_length, Nat.mul_one] at htk
        rw [byteRows_length] at hn2
        rw [Nat.mul_one] at hsz1
        have hlen : w.data.toList.length = w.size := by simp
        by_cases h0 : w.size = 0
        · have hw : w = ⟨#[]⟩ := by
            apply ByteArray.ext
            apply Array.ext
            · simpa using h0
            · intro j h1 h2
              have : w.data.size = w.size := rfl
              omega
          have key := run_convert_bytes_back w0 s t el ⟨g, off, none⟩ cap [] hu1 hu3 hu2 (fun j hj => absurd hj (by simp))
          rw [hw]
          exact key
        · have hoff := hoff (by omega)
          rw [Nat.zero_mul] at hoff
          subst hoff
          have key := run_convert_bytes_back w0 s t el ⟨g, 0, none⟩ cap w.data.toList hu1 hu3 hu2 (fun j hj => by
            have hjb : j < (byteRows w).length := by rw [byteRows_length]; simpa using hj
            have hrow := b7 j hjb 0 (by simp [byteRows])
            have hcur : cur[j]? = xs[j]? := by
              rw [← htk, List.getElem?_take, if_pos (by rw [byteRows_length] at hjb; exact hjb), Array.getElem?_toList]
            have hxl : xs.length = w.size := by
              have := b4.1
              rw [byteRows_length, Nat.mul_one] at this
              exact this
            have hjx : j < xs.length := by rw [hxl]; rw [byteRows_length] at hjb; exact hjb
            have ea : (Addr.add ⟨g, 0, none⟩ j) = ⟨g, j, none⟩ := by unfold Addr.add; split <;> simp_all
            have ec : w0.cell? ⟨g, j, none⟩ = cur[j]? := by simp [World.cell?, hg1]
            rw [ea, ec, hcur, List.getElem?_eq_getElem hjx]
            have e2 : xs.getD (j * 1 + 0) undef = xs[j] := by
              rw [Nat.mul_one, Nat.add_zero]
              simp [List.getD, List.getElem?_eq_getElem hjx]
            rw [e2] at hrow
            have e3 : (byteRows w)[j][0]'(by simp [byteRows]) = .d (.s (.int .u8 (w.data.toList[j]).toNat)) := by
              simp only [byteRows, List.getElem_map, List.getElem_cons_zero]
            rw [e3] at hrow
            rw [hrow.s_inv])
          rw [hlen] at key
          exact key
    | sl0 q1 q2 hh =>
      rw [run_convert_bytes_string w0 s t el none 0 0 hu1 hu3 hu2]
      have h0 : w = .empty := by
        apply ByteArray.ext
        apply Array.ext
        · exact hzz
        · intro j h1 h2
          simp at h2
      rw [h0]
      rfl
  exact (VOk.same hg hf hst key (.d (.s (.string w))) h).op
end
attribute [local irreducible] AR Ok inBlock andThen endQ aoper
section
variable {X : Cfg} {nt : Nat} {Q : Exit → Env → St → Prop} {env : Env} {σ : St} {K : AV → St → Prop}
/-- A part of a string. -/
theorem Un {s r : ByteArray} {t : TypeId} {x y z : Operand} {m n : Int} {ti : TI} (a b : Nat) (hr : s.extract a b = r) (hK : K (vs r) σ)
    (hx : aev X env x = vs s := by exact rfl) (hy : aev X env y = vi m := by exact rfl) (hz : aev X env z = vi n := by exact rfl) (ht : X.T t = some ti := by exact rfl) (hk : ti.kind = .string := by exact rfl) (ha : m = (a : Int) := by omega) (hb : n = (b : Int) := by omega) (hab : a ≤ b := by omega) (hbl : b ≤ s.size := by omega) : aoper X (.slice t x (some y) (some z) none) env σ Q K := by
  simp only [aoper, aop, aslice, Option.map_some, optInt]
  rw [hx, hy, hz]
  refine ⟨ti, ht, some m, rfl, some n, rfl, ?_⟩
  rw [hk]
  subst ha hb hr
  refine ⟨by simp, by simpa using hab, by simpa using hbl, ?_⟩
  simpa using hK
/-- One byte behind a row of bytes. -/
theorem Uo {ars : Array Operand} {ts : Array TypeId} {s x : Operand} {t tx el i v n : Nat} {ti te tix : TI} {w : ByteArray} {c : UInt8} {c' : Int} {e2 : Nat} (ho : σ.obj i = some (.row v el 1 (byteRows w))) (hb : (w ++ ⟨#[c]⟩).size ≤ 140737488355328) (h : K (.sl i n 0 (w ++ ⟨#[c]⟩).size) (bumpSet σ i (.row n el 1 (byteRows (w ++ ⟨#[c]⟩)))))
    (h1 : ars.toList = [s, x] := by exact rfl) (h2 : ts.toList = [t, tx] := by exact rfl) (hs : aev X env s = .sl i v 0 w.size := by exact rfl) (hx : aev X env x = .d (.im [[.s (.int .u8 c')]]) := by exact rfl) (hc : c' = (c.toNat : Int) := by exact rfl) (ht : X.T t = some ti := by exact rfl) (hk : ti.kind = .slice el := by exact rfl) (hte : X.T el = some te := by exact rfl) (hsz : te.size = 1 := by exact rfl) (hby : te.bytes = 1 := by exact rfl)
    (htx : X.T tx = some tix := by exact rfl) (hkx : tix.kind = .slice e2 := by exact rfl) (hn : σ.next = n := by exact rfl) : aoper X (.call ⟨.builtin .append, ars, ts⟩) env σ Q K := by
  subst hn
  subst hc
  simp only [aoper, abuiltin]
  rw [h1, h2]
  simp only [aappend]
  have hl : (byteRows w).length = w.size := byteRows_length w
  rw [ByteArray.size_append] at h hb
  have hu1 : (ByteArray.mk #[c]).size = 1 := rfl
  have hbr : byteRows ⟨#[c]⟩ = [[.d (.s (.int .u8 c.toNat))]] := rfl
  refine ⟨ti, ht, el, te, hk, hte, by omega, by omega, tix, htx, byteRows ⟨#[c]⟩, ?_, ?_, ?_⟩
  · rw [hkx, hx, hbr]; rfl
  · intro r hr; rw [hsz]; obtain ⟨b, _, rfl⟩ := List.mem_map.1 hr; rfl
  · rw [hs, byteRows_length, hsz, hby]
    refine ⟨rfl, byteRows w, ho, by omega, by omega, ?_⟩
    rw [List.take_of_length_le (by omega), ← byteRows_app]
    exact h
end
end Go.Pm
/- The data of the source language, and how they stand for rows of cells. -/
set_option linter.unusedVariables false
namespace Go.Pm
structure Itm where
  op : Int
  val : Int
  name : ByteArray
structure Cnd where
  name : ByteArray
  on : Bool
structure Vr where
  name : ByteArray
  type : Int
  clock : List Cnd
structure Eqn where
  lhs : List ByteArray
  code : List Itm
  call : ByteArray
  args : List (List Itm)
structure Nod where
  name : ByteArray
  ins : List Vr
  outs : List Vr
  vars : List Vr
  eqs : List Eqn
def eStr (s : ByteArray) : List D := [.s (.string s)]
def eItm (x : Itm) : List D := [.s (.int .i64 x.op), .s (.int .i64 x.val), .s (.string x.name)]
def eItms (l : List Itm) : List D := [.im (l.map eItm)]
def eCnd (x : Cnd) : List D := [.s (.string x.name), .s (.bool x.on)]
def eVr (x : Vr) : List D := [.s (.string x.name), .s (.int .i64 x.type), .im (x.clock.map eCnd)]
def eEqn (x : Eqn) : List D := [.im (x.lhs.map eStr), .im (x.code.map eItm), .s (.string x.call), .im (x.args.map eItms)]
def eNod (x : Nod) : List D := [.s (.string x.name), .im (x.ins.map eVr), .im (x.outs.map eVr), .im (x.vars.map eVr), .im (x.eqs.map eEqn)]
/-- Weights, as the laws count them. -/
def wL {α : Type} (w : α → Nat) (l : List α) : Nat := l.length + (l.map w).sum
def wStr (s : ByteArray) : Nat := s.size
def wItm (x : Itm) : Nat := x.name.size
def wCnd (x : Cnd) : Nat := x.name.size
def wVr (x : Vr) : Nat := x.name.size + wL wCnd x.clock
def wEqn (x : Eqn) : Nat := wL wStr x.lhs + wL wItm x.code + x.call.size + wL (wL wItm) x.args
def wNod (x : Nod) : Nat := x.name.size + wL wVr x.ins + wL wVr x.outs + wL wVr x.vars + wL wEqn x.eqs
/-- Nothing is longer than a length can be. -/
def mx : Nat := 9223372036854775807
def dL {α : Type} (p : α → Prop) (l : List α) : Prop := l.length ≤ mx ∧ ∀ x ∈ l, p x
def dStr (s : ByteArray) : Prop := s.size ≤ mx
def dItm (x : Itm) : Prop := x.name.size ≤ mx
def dCnd (x : Cnd) : Prop := x.name.size ≤ mx
def dVr (x : Vr) : Prop := x.name.size ≤ mx ∧ dL dCnd x.clock
def dEqn (x : Eqn) : Prop := dL dStr x.lhs ∧ dL dItm x.code ∧ x.call.size ≤ mx ∧ dL (dL dItm) x.args
def dNod (x : Nod) : Prop := x.name.size ≤ mx ∧ dL dVr x.ins ∧ dL dVr x.outs ∧ dL dVr x.vars ∧ dL dEqn x.eqs
/-- What is left of a budget, or -1. -/
def subI (left : Int) (n : Nat) : Int := if left < n then -1 else left - n
theorem subI_neg {left : Int} {n : Nat} (h : subI left n < 0) : left < n ∧ subI left n = -1 := by unfold subI at h ⊢; split at h <;> (first | (rename_i h1; exact ⟨h1, if_pos h1⟩) | omega)
theorem subI_pos {left : Int} {n : Nat} (h : ¬ subI left n < 0) (h0 : 0 ≤ left) : (n : Int) ≤ left ∧ subI left n = left - n := by unfold subI at h ⊢; split at h <;> (first | (rename_i h1; exact ⟨by omega, if_neg h1⟩) | omega)
theorem subI_over {left : Int} {n : Nat} (h : left < n) : subI left n = -1 := if_pos h
theorem subI_in {left : Int} {n : Nat} (h : (n : Int) ≤ left) : subI left n = left - n := if_neg (by omega)
theorem subI_add {left : Int} {n m : Nat} (h : (n : Int) ≤ left) : subI (left - n) m = subI left (n + m) := by unfold subI; split <;> split <;> omega
end Go.Pm
/- The data of machines, and how they stand for rows of cells. -/
set_option linter.unusedVariables false
namespace Go.Pm
structure Slt where
  name : ByteArray
  type : Int
structure Sm where
  kind : Int
  name : ByteArray
  pos : Int
  outs : List ByteArray
  code : List Itm
  args : List (List Itm)
structure Cls where
  name : ByteArray
  ins : List Slt
  outs : List Slt
  locs : List ByteArray
  mems : List Int
  insts : List Int
  body : List Sm
def eNum (n : Int) : List D := [.s (.int .i64 n)]
def eSlt (x : Slt) : List D := [.s (.string x.name), .s (.int .i64 x.type)]
def eSm (x : Sm) : List D := [.s (.int .i64 x.kind), .s (.string x.name), .s (.int .i64 x.pos), .im (x.outs.map eStr), .im (x.code.map eItm), .im (x.args.map eItms)]
def eCls (x : Cls) : List D := [.s (.string x.name), .im (x.ins.map eSlt), .im (x.outs.map eSlt), .im (x.locs.map eStr), .im (x.mems.map eNum), .im (x.insts.map eNum), .im (x.body.map eSm)]
def wNum0 (_ : Int) : Nat := 0
theorem wNum0_sum : ∀ l : List Int, (l.map wNum0).sum = 0
  | [] => rfl
  | x :: l => by simp only [List.map_cons, List.sum_cons, wNum0_sum l, wNum0]
def wSlt (x : Slt) : Nat := x.name.size
def wSm (x : Sm) : Nat := x.name.size + wL wStr x.outs + wL wItm x.code + wL (wL wItm) x.args
def wCls (x : Cls) : Nat := x.name.size + wL wSlt x.ins + wL wSlt x.outs + wL wStr x.locs + wL wNum0 x.mems + wL wNum0 x.insts + wL wSm x.body
def dNums (l : List Int) : Prop := l.length ≤ mx
def dSlt (x : Slt) : Prop := x.name.size ≤ mx
def dSm (x : Sm) : Prop := x.name.size ≤ mx ∧ dL dStr x.outs ∧ dL dItm x.code ∧ dL (dL dItm) x.args
def dCls (x : Cls) : Prop := x.name.size ≤ mx ∧ dL dSlt x.ins ∧ dL dSlt x.outs ∧ dL dStr x.locs ∧ dNums x.mems ∧ dNums x.insts ∧ dL dSm x.body
end Go.Pm
/- Forests of statements: what grow makes of a flat list. -/
set_option linter.unusedVariables false
set_option linter.unusedSimpArgs false
namespace Go.Pm
inductive Br where
  | nd (s : Sm) (yes no : List Br)
mutual
/-- A branch, behind a pointer. -/
def eBr : Br → List D
  | .nd s yes no => [.s (.int .i64 s.kind), .s (.string s.name), .s (.int .i64 s.pos), .im (s.outs.map eStr), .im (s.code.map eItm), .im (s.args.map eItms), .im (eBrs yes), .im (eBrs no)]
def eBrs : List Br → List (List D)
  | [] => []
  | b :: l => [.ip (eBr b) 0] :: eBrs l
end
def eBrP (b : Br) : List D := [.ip (eBr b) 0]
theorem eBrs_map : ∀ l : List Br, eBrs l = l.map eBrP
  | [] => rfl
  | b :: l => by simp only [eBrs, List.map_cons, eBrs_map l]; rfl
structure Fr where
  s : Sm
  els : Bool
  yes : List Br
  no : List Br
/-- A branch more, in the innermost open one. -/
def putF (b : Br) : List Fr → List Br → List Fr × List Br
  | [], R => ([], R ++ [b])
  | f :: st, R => ((if f.els then { f with no := f.no ++ [b] } else { f with yes := f.yes ++ [b] }) :: st, R)
def growGo : List Sm → List Fr → List Br → Option (List Br)
  | [], [], R => some R
  | [], _ :: _, _ => none
  | s :: l, st, R =>
    if s.kind = 4 then growGo l (⟨s, false, [], []⟩ :: st) R
    else if s.kind = 5 then
      match st with
      | [] => none
      | f :: st' => if f.els then none else growGo l ({ f with els := true } :: st') R
    else if s.kind = 6 then
      match st with
      | [] => none
      | f :: st' => if f.els then growGo l (putF (.nd f.s f.yes f.no) st' R).1 (putF (.nd f.s f.yes f.no) st' R).2 else none
    else growGo l (putF (.nd s [] []) st R).1 (putF (.nd s [] []) st R).2
def growI (l : List Sm) : Option (List Br) := growGo l [] []

/-! ### how forests lie in memory -/
structure Gn where
  s : Sm
  y : Nat
  hy : Nat
  n : Nat
  hn : Nat
  yes : List Nat
  no : List Nat
mutual
/-- Below the node a, of closed nodes, lies the tree. -/
def trB (nd : Nat → Option Gn) (op : Nat → Bool) : Br → Nat → Prop
  | .nd s ys ns, a => ∃ g, nd a = some g ∧ op a = false ∧ g.s = s ∧ trL nd op ys g.yes ∧ trL nd op ns g.no
def trL (nd : Nat → Option Gn) (op : Nat → Bool) : List Br → List Nat → Prop
  | [], [] => True
  | b :: bs, a :: l => trB nd op b a ∧ trL nd op bs l
  | _, _ => False
end
mutual
theorem trB_mono {nd nd' : Nat → Option Gn} {op op' : Nat → Bool} (h : ∀ b g, nd b = some g → op b = false → nd' b = some g ∧ op' b = false) : ∀ (t : Br) (a : Nat), trB nd op t a → trB nd' op' t a
  | .nd s ys ns, a, ht => by
    simp only [trB] at ht ⊢
    obtain ⟨g, h1, h2, h3, h4, h5⟩ := ht
    obtain ⟨h6, h7⟩ := h a g h1 h2
    exact ⟨g, h6, h7, h3, trL_mono h ys g.yes h4, trL_mono h ns g.no h5⟩
theorem trL_mono {nd nd' : Nat → Option Gn} {op op' : Nat → Bool} (h : ∀ b g, nd b = some g → op b = false → nd' b = some g ∧ op' b = false) : ∀ (ts : List Br) (l : List Nat), trL nd op ts l → trL nd' op' ts l
  | [], [], _ => by simp [trL]
  | b :: bs, a :: l, ht => by
    simp only [trL] at ht ⊢
    exact ⟨trB_mono h b a ht.1, trL_mono h bs l ht.2⟩
  | [], _ :: _, ht => by simp [trL] at ht
  | _ :: _, [], ht => by simp [trL] at ht
end
theorem trL_push {nd : Nat → Option Gn} {op : Nat → Bool} {t : Br} {a : Nat} (ht : trB nd op t a) : ∀ (ts : List Br) (l : List Nat), trL nd op ts l → trL nd op (ts ++ [t]) (l ++ [a])
  | [], [], _ => by simp [trL, ht]
  | b :: bs, c :: l, h => by
    simp only [trL] at h
    simp only [List.cons_append, trL]
    exact ⟨h.1, trL_push ht bs l h.2⟩
  | [], _ :: _, h => by simp [trL] at h
  | _ :: _, [], h => by simp [trL] at h
theorem trL_len {nd : Nat → Option Gn} {op : Nat → Bool} : ∀ (ts : List Br) (l : List Nat), trL nd op ts l → ts.length = l.length
  | [], [], _ => rfl
  | b :: bs, c :: l, h => by
    simp only [trL] at h
    simp [trL_len bs l h.2]
  | [], _ :: _, h => by simp [trL] at h
  | _ :: _, [], h => by simp [trL] at h

/-- An open node: its frame. -/
structure On where
  o : Nat
  a : Nat
  els : Bool
def frB (nd : Nat → Option Gn) (op : Nat → Bool) (f : Fr) (x : On) (yes no : List Nat) : Prop := ∃ g, nd x.a = some g ∧ op x.a = true ∧ g.s = f.s ∧ x.els = f.els ∧ g.yes = yes ∧ g.no = no
/-- The frames below an open node whose number is p. -/
def frP (nd : Nat → Option Gn) (op : Nat → Bool) : List Fr → List On → List Br → List Nat → Nat → Prop
  | [], [], R, cs, p => ∃ l, cs = l ++ [p] ∧ trL nd op R l
  | f :: fs, x :: st, R, cs, p => (∃ l m, frB nd op f x (if x.els then l else l ++ [p]) (if x.els then m ++ [p] else m) ∧ trL nd op f.yes l ∧ trL nd op f.no m) ∧ frP nd op fs st R cs x.a
  | _, _, _, _, _ => False
/-- The frames, the innermost first. -/
def frS (nd : Nat → Option Gn) (op : Nat → Bool) : List Fr → List On → List Br → List Nat → Prop
  | [], [], R, cs => trL nd op R cs
  | f :: fs, x :: st, R, cs => (∃ l m, frB nd op f x l m ∧ trL nd op f.yes l ∧ trL nd op f.no m) ∧ frP nd op fs st R cs x.a
  | _, _, _, _ => False
end Go.Pm
/- Forests, plainly: which lists of statements spell a forest, and where the parts of an If lie. -/
set_option linter.unusedVariables false
set_option linter.unusedSimpArgs false
namespace Go.Pm
/-- The list spells the forest. -/
inductive Spell : List Sm → List Br → Prop
  | nil : Spell [] []
  | leaf {s : Sm} {l : List Sm} {R : List Br} (h4 : s.kind ≠ 4) (h5 : s.kind ≠ 5) (h6 : s.kind ≠ 6) (h : Spell l R) : Spell (s :: l) (.nd s [] [] :: R)
  | cond {s e f : Sm} {y n l : List Sm} {Y N R : List Br} (h4 : s.kind = 4) (h5 : e.kind = 5) (h6 : f.kind = 6) (hy : Spell y Y) (hn : Spell n N) (h : Spell l R) : Spell (s :: (y ++ e :: (n ++ f :: l))) (.nd s Y N :: R)
theorem Spell.app {l m : List Sm} {R T : List Br} (h : Spell l R) (h' : Spell m T) : Spell (l ++ m) (R ++ T) := by
  induction h with
  | nil => exact h'
  | leaf h4 h5 h6 _ ih => exact .leaf h4 h5 h6 ih
  | cond h4 h5 h6 hy hn _ _ _ ih => have := Spell.cond h4 h5 h6 hy hn ih; simpa using this
def putFs : List Br → List Fr → List Br → List Fr × List Br
  | [], st, R => (st, R)
  | b :: bs, st, R => putFs bs (putF b st R).1 (putF b st R).2
theorem putFs_nil : ∀ (bs R : List Br), putFs bs [] R = ([], R ++ bs)
  | [], R => by simp [putFs]
  | b :: bs, R => by simp [putFs, putF, putFs_nil bs]
theorem putFs_yes (s : Sm) (n : List Br) (st : List Fr) (R : List Br) : ∀ (bs : List Br) (Y : List Br), putFs bs (⟨s, false, Y, n⟩ :: st) R = (⟨s, false, Y ++ bs, n⟩ :: st, R)
  | [], Y => by simp [putFs]
  | b :: bs, Y => by simp [putFs, putF, putFs_yes s n st R bs]
theorem putFs_no (s : Sm) (y : List Br) (st : List Fr) (R : List Br) : ∀ (bs : List Br) (N : List Br), putFs bs (⟨s, true, y, N⟩ :: st) R = (⟨s, true, y, N ++ bs⟩ :: st, R)
  | [], Y => by simp [putFs]
  | b :: bs, Y => by simp [putFs, putF, putFs_no s y st R bs]
theorem grow_if {s : Sm} (h : s.kind = 4) (l : List Sm) (st : List Fr) (R : List Br) : growGo (s :: l) st R = growGo l (⟨s, false, [], []⟩ :: st) R := by simp only [growGo]; rw [if_pos h]
theorem grow_else {s u : Sm} (h : s.kind = 5) (l : List Sm) (y n : List Br) (st : List Fr) (R : List Br) : growGo (s :: l) (⟨u, false, y, n⟩ :: st) R = growGo l (⟨u, true, y, n⟩ :: st) R := by
  simp only [growGo]; rw [if_neg (by omega), if_pos h]; rfl
theorem grow_end {s u : Sm} (h : s.kind = 6) (l : List Sm) (y n : List Br) (st : List Fr) (R : List Br) : growGo (s :: l) (⟨u, true, y, n⟩ :: st) R = growGo l (putF (.nd u y n) st R).1 (putF (.nd u y n) st R).2 := by
  simp only [growGo]; rw [if_neg (by omega), if_neg (by omega), if_pos h]; rfl
theorem spell_grow {l : List Sm} {T : List Br} (h : Spell l T) : ∀ (r : List Sm) (st : List Fr) (R : List Br), growGo (l ++ r) st R = growGo r (putFs T st R).1 (putFs T st R).2 := by
  induction h with
  | nil => intro r st R; rfl
  | leaf h4 h5 h6 _ ih =>
    intro r st R
    simp only [List.cons_append, growGo, h4, h5, h6, if_false, ih, putFs]
  | @cond s e f y n l Y N T h4 h5 h6 _ _ _ ihy ihn ih =>
    intro r st R
    have e1 : s :: (y ++ e :: (n ++ f :: l)) ++ r = s :: (y ++ (e :: (n ++ (f :: (l ++ r))))) := by simp
    rw [e1, grow_if h4, ihy, putFs_yes, List.nil_append, grow_else h5, ihn, putFs_no, List.nil_append, grow_end h6, ih]
    rfl
theorem spell_growI {l : List Sm} {T : List Br} (h : Spell l T) : growI l = some T := by
  have := spell_grow h [] [] []
  rw [List.append_nil] at this
  unfold growI
  rw [this, putFs_nil]
  rfl
/-- The list ends the open frames. -/
inductive Comp : List Sm → List Fr → List Br → List Br → Prop
  | done {l : List Sm} {R T : List Br} (h : Spell l T) : Comp l [] R (R ++ T)
  | yes {y l : List Sm} {Y R R' : List Br} {e : Sm} {f : Fr} {st : List Fr} (hf : f.els = false) (hy : Spell y Y) (he : e.kind = 5) (h : Comp l (⟨f.s, true, f.yes ++ Y, f.no⟩ :: st) R R') : Comp (y ++ e :: l) (f :: st) R R'
  | no {n l : List Sm} {N R R' : List Br} {e : Sm} {f : Fr} {st : List Fr} (hf : f.els = true) (hn : Spell n N) (he : e.kind = 6) (h : Comp l (putF (.nd f.s f.yes (f.no ++ N)) st R).1 (putF (.nd f.s f.yes (f.no ++ N)) st R).2 R') : Comp (n ++ e :: l) (f :: st) R R'
theorem comp_push {u l : List Sm} {b : Br} (hu : ∀ {m : List Sm} {T : List Br}, Spell m T → Spell (u ++ m) (b :: T)) {st : List Fr} {R R' : List Br} (h : Comp l (putF b st R).1 (putF b st R).2 R') : Comp (u ++ l) st R R' := by
  cases st with
  | nil =>
    simp only [putF] at h
    cases h with
    | done h => rw [List.append_assoc]; exact .done (hu h)
  | cons f st =>
    simp only [putF] at h
    cases hf : f.els with
    | false =>
      simp only [hf, Bool.false_eq_true, if_false] at h
      cases h with
      | yes hf' hy he h =>
        rw [← List.append_assoc]
        refine .yes hf (hu hy) he ?_
        simpa using h
      | no hf' => simp [hf] at hf'
    | true =>
      simp only [hf, if_true] at h
      cases h with
      | yes hf' => simp [hf] at hf'
      | no hf' hn he h =>
        rw [← List.append_assoc]
        refine .no hf (hu hn) he ?_
        simpa using h
theorem grow_comp : ∀ (l : List Sm) (st : List Fr) (R R' : List Br), growGo l st R = some R' → Comp l st R R'
  | [], [], R, R', e => by
    simp only [growGo, Option.some.injEq] at e
    subst e
    have := Comp.done (R := R) Spell.nil
    simpa using this
  | [], _ :: _, R, R', e => by simp [growGo] at e
  | s :: l, st, R, R', e => by
    simp only [growGo] at e
    split at e
    · rename_i h4
      have := grow_comp l _ R R' e
      cases this with
      | @yes y l1 Y _ _ t1 _ _ hf hy he h =>
        cases h with
        | @no n l2 N _ _ t2 _ _ hf2 hn he2 h =>
          have key := comp_push (u := s :: (y ++ t1 :: (n ++ [t2]))) (b := .nd s Y N) (st := st) (R := R) (R' := R') (l := l2) (fun {m T} hm => by
            have := Spell.cond h4 he he2 hy hn hm
            simpa using this) (by simpa using h)
          simpa using key
        | yes hf' => cases hf'
      | no hf => cases hf
    · rename_i h4
      split at e
      · rename_i h5
        cases st with
        | nil => cases e
        | cons f st' =>
          dsimp only at e
          split at e
          · cases e
          · rename_i hf
            have := grow_comp l _ R R' e
            have := Comp.yes (f := f) (by simpa using hf) Spell.nil h5 (by simpa using this)
            simpa using this
      · rename_i h5
        split at e
        · rename_i h6
          cases st with
          | nil => cases e
          | cons f st' =>
            dsimp only at e
            split at e
            · rename_i hf
              have := grow_comp l _ _ R' e
              have := Comp.no (f := f) hf Spell.nil h6 (by simpa using this)
              simpa using this
            · cases e
        · rename_i h6
          have := grow_comp l _ _ R' e
          exact comp_push (u := [s]) (fun hm => Spell.leaf h4 h5 h6 hm) this
theorem comp_nil {l : List Sm} {R X : List Br} (h : Comp l [] R X) : ∃ T, X = R ++ T ∧ Spell l T := by
  cases h with
  | done h => exact ⟨_, rfl, h⟩
theorem grow_spell {l : List Sm} {T : List Br} (h : growI l = some T) : Spell l T := by
  obtain ⟨T', rfl, h'⟩ := comp_nil (grow_comp l [] [] T h)
  exact h'
theorem growI_iff {l : List Sm} {T : List Br} : growI l = some T ↔ Spell l T := ⟨grow_spell, spell_growI⟩

/-! ### where the Else and the End lie -/
def partsGo : List Sm → Nat → Int → Int → Int × Int
  | [], _, _, _ => (-1, -1)
  | s :: l, j, d, o =>
    if s.kind = 4 then partsGo l (j + 1) (d + 1) o
    else if s.kind = 5 then (if d = 1 then (if 0 ≤ o then (-1, -1) else partsGo l (j + 1) d j) else partsGo l (j + 1) d o)
    else if s.kind = 6 then (if d - 1 = 0 then (o, j) else partsGo l (j + 1) (d - 1) o)
    else partsGo l (j + 1) d o
def partsS (l : List Sm) (i : Nat) : Int × Int := partsGo (l.drop i) i 0 (-1)
theorem go_if {s : Sm} (h : s.kind = 4) (l : List Sm) (j : Nat) (d o : Int) : partsGo (s :: l) j d o = partsGo l (j + 1) (d + 1) o := by simp only [partsGo]; rw [if_pos h]
theorem go_else {s : Sm} (h : s.kind = 5) (l : List Sm) (j : Nat) {d : Int} (hd : d ≠ 1) (o : Int) : partsGo (s :: l) j d o = partsGo l (j + 1) d o := by simp only [partsGo]; rw [if_neg (by omega), if_pos h, if_neg hd]
theorem go_end {s : Sm} (h : s.kind = 6) (l : List Sm) (j : Nat) {d : Int} (hd : d - 1 ≠ 0) (o : Int) : partsGo (s :: l) j d o = partsGo l (j + 1) (d - 1) o := by simp only [partsGo]; rw [if_neg (by omega), if_neg (by omega), if_pos h, if_neg hd]
theorem parts_spell {l : List Sm} {T : List Br} (h : Spell l T) : ∀ (r : List Sm) (j : Nat) (d o : Int), 1 ≤ d → partsGo (l ++ r) j d o = partsGo r (j + l.length) d o := by
  induction h with
  | nil => intro r j d o _; rfl
  | leaf h4 h5 h6 _ ih =>
    intro r j d o hd
    simp only [List.cons_append, partsGo, h4, h5, h6, if_false, ih _ _ _ _ hd, List.length_cons]
    congr 1; omega
  | @cond s e f y n l Y N T h4 h5 h6 _ _ _ ihy ihn ih =>
    intro r j d o hd
    have e1 : s :: (y ++ e :: (n ++ f :: l)) ++ r = s :: (y ++ (e :: (n ++ (f :: (l ++ r))))) := by simp
    rw [e1]
    rw [go_if h4, ihy _ _ _ _ (by omega), go_else h5 _ _ (by omega), ihn _ _ _ _ (by omega), go_end h6 _ _ (by omega), ih _ _ _ _ (by omega)]
    simp only [List.length_cons, List.length_append]
    congr 1 <;> omega
theorem parts_if {s e f : Sm} {y n : List Sm} {Y N : List Br} (h4 : s.kind = 4) (h5 : e.kind = 5) (h6 : f.kind = 6) (hy : Spell y Y) (hn : Spell n N) (r : List Sm) (j : Nat) :
    partsGo (s :: (y ++ e :: (n ++ f :: r))) j 0 (-1) = (((j + 1 + y.length : Nat) : Int), ((j + 1 + y.length + 1 + n.length : Nat) : Int)) := by
  rw [go_if h4, parts_spell hy _ _ _ _ (by omega)]
  have h1 : ∀ (m : List Sm) (j : Nat), partsGo (e :: m) j (0 + 1) (-1) = partsGo m (j + 1) 1 j := by
    intro m j
    simp only [partsGo]
    rw [if_neg (by omega), if_pos h5, if_pos (by omega), if_neg (by omega)]
    rfl
  rw [h1, parts_spell hn _ _ _ _ (by omega)]
  simp only [partsGo]
  rw [if_neg (by omega), if_neg (by omega), if_pos h6, if_pos (by omega)]
/-- What the answer tells of the list. -/
theorem parts_at : ∀ (l : List Sm) (j : Nat) (d o O E : Int), 1 ≤ d → partsGo l j d o = (O, E) → 0 ≤ E → (∃ q, E = ((j + q : Nat) : Int) ∧ ∃ f, l[q]? = some f ∧ f.kind = 6 ∧ (O = o ∨ ∃ p, p < q ∧ O = ((j + p : Nat) : Int) ∧ ∃ e, l[p]? = some e ∧ e.kind = 5))
  | [], j, d, o, O, E, _, h, hE => by simp only [partsGo, Prod.mk.injEq] at h; omega
  | s :: l, j, d, o, O, E, hd, h, hE => by
    have up : ∀ {d' o' : Int}, 1 ≤ d' → partsGo l (j + 1) d' o' = (O, E) → (o' = o ∨ (o' = (j : Int) ∧ s.kind = 5)) → ∃ q, E = ((j + q : Nat) : Int) ∧ ∃ f, (s :: l)[q]? = some f ∧ f.kind = 6 ∧ (O = o ∨ ∃ p, p < q ∧ O = ((j + p : Nat) : Int) ∧ ∃ e, (s :: l)[p]? = some e ∧ e.kind = 5) := by
      intro d' o' hd' h' ho
      obtain ⟨q, h1, f, h2, h3, h4⟩ := parts_at l (j + 1) d' o' O E hd' h' hE
      refine ⟨q + 1, by omega, f, by simpa using h2, h3, ?_⟩
      rcases h4 with h4 | ⟨p, h5, h6, e, h7, h8⟩
      · rcases ho with ho | ⟨ho, hs⟩
        · exact .inl (by omega)
        · exact .inr ⟨0, by omega, by omega, s, rfl, hs⟩
      · exact .inr ⟨p + 1, by omega, by omega, e, by simpa using h7, h8⟩
    simp only [partsGo] at h
    split at h
    · exact up (by omega) h (.inl rfl)
    · split at h
      · rename_i h5
        split at h
        · split at h
          · simp only [Prod.mk.injEq] at h; omega
          · exact up hd h (.inr ⟨rfl, h5⟩)
        · exact up hd h (.inl rfl)
      · split at h
        · rename_i h6
          split at h
          · simp only [Prod.mk.injEq] at h
            exact ⟨0, by omega, s, rfl, h6, .inl h.1.symm⟩
          · exact up (by omega) h (.inl rfl)
        · exact up hd h (.inl rfl)
end Go.Pm
/- Forests, plainly: the tree of a list that begins with an If; how deep a forest is. -/
set_option linter.unusedVariables false
set_option linter.unusedSimpArgs false
namespace Go.Pm
theorem if_inv {s : Sm} {r : List Sm} {T : List Br} (h4 : s.kind = 4) (h : Spell (s :: r) T) : ∃ y e n f r2 Y N R, r = y ++ e :: (n ++ f :: r2) ∧ e.kind = 5 ∧ f.kind = 6 ∧ Spell y Y ∧ Spell n N ∧ Spell r2 R ∧ T = .nd s Y N :: R := by
  cases h with
  | leaf h => exact absurd h4 h
  | cond h4 h5 h6 hy hn h => exact ⟨_, _, _, _, _, _, _, _, rfl, h5, h6, hy, hn, h, rfl⟩
theorem leaf_inv {s : Sm} {r : List Sm} {T : List Br} (h4 : s.kind ≠ 4) (h : Spell (s :: r) T) : s.kind ≠ 5 ∧ s.kind ≠ 6 ∧ ∃ R, Spell r R ∧ T = .nd s [] [] :: R := by
  cases h with
  | leaf h4 h5 h6 h => exact ⟨h5, h6, _, h, rfl⟩
  | cond h => exact absurd h h4
theorem growI_nil : growI [] = some [] := rfl
theorem growI_leaf {s : Sm} {r : List Sm} (h4 : s.kind ≠ 4) (h5 : s.kind ≠ 5) (h6 : s.kind ≠ 6) : growI (s :: r) = (growI r).map (.nd s [] [] :: ·) := by
  cases h : growI r with
  | none =>
    rw [Option.map_none]
    cases h' : growI (s :: r) with
    | none => rfl
    | some T =>
      obtain ⟨_, _, R, h1, _⟩ := leaf_inv h4 (grow_spell h')
      rw [spell_growI h1] at h; cases h
  | some R => exact spell_growI (.leaf h4 h5 h6 (grow_spell h))
theorem growI_bad {s : Sm} {r : List Sm} (h : s.kind = 5 ∨ s.kind = 6) : growI (s :: r) = none := by
  cases h' : growI (s :: r) with
  | none => rfl
  | some T => obtain ⟨h5, h6, _⟩ := leaf_inv (by omega) (grow_spell h'); omega
theorem if_none {s : Sm} {r : List Sm} {j : Nat} {O E : Int} (h4 : s.kind = 4) (hp : partsGo (s :: r) j 0 (-1) = (O, E)) (hb : O < 0 ∨ E < 0) : growI (s :: r) = none := by
  cases h' : growI (s :: r) with
  | none => rfl
  | some T =>
    obtain ⟨y, e, n, f, r2, Y, N, R, rfl, h5, h6, hy, hn, _⟩ := if_inv h4 (grow_spell h')
    rw [parts_if h4 h5 h6 hy hn, Prod.mk.injEq] at hp
    omega
theorem if_cut {s : Sm} {r : List Sm} {j : Nat} {O E : Int} (h4 : s.kind = 4) (hp : partsGo (s :: r) j 0 (-1) = (O, E)) (hO : 0 ≤ O) (hE : 0 ≤ E) :
    ∃ y e n f r2, r = y ++ e :: (n ++ f :: r2) ∧ e.kind = 5 ∧ f.kind = 6 ∧ O = ((j + 1 + y.length : Nat) : Int) ∧ E = ((j + 1 + y.length + 1 + n.length : Nat) : Int) := by
  rw [go_if h4] at hp
  obtain ⟨q, h1, f, h2, h3, h⟩ := parts_at r (j + 1) _ _ O E (by omega) hp hE
  rcases h with h | ⟨p, hpq, h5, e, h6, h7⟩
  · omega
  obtain ⟨d1, l1⟩ : r.drop q = f :: r.drop (q + 1) ∧ q < r.length := by
    obtain ⟨hl, he⟩ := List.getElem?_eq_some_iff.1 h2
    exact ⟨by rw [List.drop_eq_getElem_cons hl, he], hl⟩
  obtain ⟨d2, l2⟩ : r.drop p = e :: r.drop (p + 1) ∧ p < r.length := by
    obtain ⟨hl, he⟩ := List.getElem?_eq_some_iff.1 h6
    exact ⟨by rw [List.drop_eq_getElem_cons hl, he], hl⟩
  have d3 : (r.drop (p + 1)).drop (q - p - 1) = f :: r.drop (q + 1) := by rw [List.drop_drop, ← d1]; congr 1; omega
  refine ⟨r.take p, e, (r.drop (p + 1)).take (q - p - 1), f, r.drop (q + 1), ?_, h7, h3, ?_, ?_⟩
  · rw [← d3, List.take_append_drop, ← d2, List.take_append_drop]
  · rw [List.length_take, Nat.min_eq_left (by omega)]; exact h5
  · rw [List.length_take, Nat.min_eq_left (by omega), List.length_take, List.length_drop, Nat.min_eq_left (by omega)]; omega
theorem growI_if {s e f : Sm} {y n r2 : List Sm} {j : Nat} (h4 : s.kind = 4) (h5 : e.kind = 5) (h6 : f.kind = 6) (hp : partsGo (s :: (y ++ e :: (n ++ f :: r2))) j 0 (-1) = (((j + 1 + y.length : Nat) : Int), ((j + 1 + y.length + 1 + n.length : Nat) : Int))) :
    growI (s :: (y ++ e :: (n ++ f :: r2))) = (growI y).bind fun Y => (growI n).bind fun N => (growI r2).map fun R => .nd s Y N :: R := by
  cases h' : growI (s :: (y ++ e :: (n ++ f :: r2))) with
  | some T =>
    obtain ⟨y', e', n', f', r', Y, N, R, he, h5', h6', hy, hn, hr, rfl⟩ := if_inv h4 (grow_spell h')
    rw [he, parts_if h4 h5' h6' hy hn, Prod.mk.injEq] at hp
    obtain ⟨rfl, he2⟩ := List.append_inj he (by omega)
    rw [List.cons.injEq] at he2
    obtain ⟨rfl, he2⟩ := he2
    obtain ⟨rfl, he3⟩ := List.append_inj he2 (by omega)
    rw [List.cons.injEq] at he3
    obtain ⟨rfl, rfl⟩ := he3
    rw [spell_growI hy, spell_growI hn, spell_growI hr]; rfl
  | none =>
    cases hy : growI y with
    | none => rfl
    | some Y =>
      cases hn : growI n with
      | none => rfl
      | some N =>
        cases hr : growI r2 with
        | none => rfl
        | some R => rw [spell_growI (.cond h4 h5 h6 (grow_spell hy) (grow_spell hn) (grow_spell hr))] at h'; cases h'
theorem spell_nil {l : List Sm} {T : List Br} (h : Spell l T) : l = [] ↔ T = [] := by cases h <;> simp
mutual
def deepB : Br → Int → Bool
  | .nd s Y N, d => if s.kind = 4 then (if (Y ≠ [] ∨ N ≠ []) ∧ 20 < d + 1 then false else deepL Y (d + 1) && deepL N (d + 1)) else true
def deepL : List Br → Int → Bool
  | [], _ => true
  | b :: R, d => deepB b d && deepL R d
end
def nestV (l : List Sm) (d : Int) : Bool := match growI l with | none => false | some R => deepL R d
theorem nestV_nil (d : Int) : nestV [] d = true := by simp [nestV, growI_nil, deepL]
theorem nestV_leaf {s : Sm} {r : List Sm} (h4 : s.kind ≠ 4) (h5 : s.kind ≠ 5) (h6 : s.kind ≠ 6) (d : Int) : nestV (s :: r) d = nestV r d := by
  unfold nestV
  rw [growI_leaf h4 h5 h6]
  cases growI r with
  | none => rfl
  | some R => simp [deepL, deepB, h4]
theorem nestV_bad {s : Sm} {r : List Sm} (h : s.kind = 5 ∨ s.kind = 6) (d : Int) : nestV (s :: r) d = false := by
  unfold nestV; rw [growI_bad h]
theorem nestV_none {s : Sm} {r : List Sm} {j : Nat} {O E : Int} (h4 : s.kind = 4) (hp : partsGo (s :: r) j 0 (-1) = (O, E)) (hb : O < 0 ∨ E < 0) (d : Int) : nestV (s :: r) d = false := by
  unfold nestV; rw [if_none h4 hp hb]
theorem nestV_if {s e f : Sm} {y n r2 : List Sm} {j : Nat} (h4 : s.kind = 4) (h5 : e.kind = 5) (h6 : f.kind = 6) (hp : partsGo (s :: (y ++ e :: (n ++ f :: r2))) j 0 (-1) = (((j + 1 + y.length : Nat) : Int), ((j + 1 + y.length + 1 + n.length : Nat) : Int))) (d : Int) :
    nestV (s :: (y ++ e :: (n ++ f :: r2))) d = if (0 < y.length ∨ 0 < n.length) ∧ 20 < d + 1 then false else nestV y (d + 1) && nestV n (d + 1) && nestV r2 d := by
  unfold nestV
  rw [growI_if h4 h5 h6 hp]
  cases hy : growI y with
  | none => simp
  | some Y =>
    cases hn : growI n with
    | none => simp
    | some N =>
      have e1 : (0 < y.length ↔ Y ≠ []) := by rw [List.length_pos_iff, Ne, spell_nil (grow_spell hy)]
      have e2 : (0 < n.length ↔ N ≠ []) := by rw [List.length_pos_iff, Ne, spell_nil (grow_spell hn)]
      cases hr : growI r2 with
      | none => simp
      | some R =>
        simp only [Option.bind_some, Option.map_some, deepL, deepB, h4, if_true, e1, e2]
        split
        · rfl
        · rfl
def withinAt (sw : Sm → ByteArray → Bool) (l : List Sm) (i : Nat) : Bool := match l[i]? with
  | none => true
  | some s => if s.kind = 4 then !(((l.drop i).take ((partsS l i).2.toNat - i)).any fun t => sw t s.name) else true
def withinS (sw : Sm → ByteArray → Bool) (l : List Sm) : Bool := (List.range l.length).all (withinAt sw l)
end Go.Pm
