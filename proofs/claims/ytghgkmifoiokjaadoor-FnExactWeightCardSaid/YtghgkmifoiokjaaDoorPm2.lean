/- The abstract machine, second text: how a step of memory carries the description over (a new object, a store into an object). -/
import Derived.Test.YtghgkmifoiokjaaDoorPm1
set_option linter.unusedVariables false
namespace Go.Pm

theorem own_row_blk {w : World} {E sz n : Nat} {h : Hd} {xs : List Value} (ho : w.ownsRow 0 E sz (h.val n) n xs) {b : Nat} (hb : h.blk = some b) :
    ∃ cur, w.heap[b]? = some (.cells cur E (0, 0)) ∧ n ≤ h.cap ∧ h.cap ≤ maxLen ∧ cur.size = h.cap * sz ∧ cur.toList.take (n * sz) = xs := by
  obtain ⟨_, ho⟩ := ho
  simp only [Hd.val, hb] at ho
  rcases ho with ⟨h, _⟩ | ⟨g, cap, cur, h, _, hg, h1, h2, h3, h4⟩
  · simp at h
  · simp only [Value.slice.injEq, Option.some.injEq, Addr.mk.injEq, and_true, true_and] at h
    obtain ⟨rfl, rfl⟩ := h
    exact ⟨cur, hg, h1, h2, h3, h4⟩

theorem own_row_nil {w : World} {E sz n : Nat} {h : Hd} {xs : List Value} (ho : w.ownsRow 0 E sz (h.val n) n xs) (hb : h.blk = none) : n = 0 := by
  obtain ⟨_, ho⟩ := ho
  simp only [Hd.val, hb] at ho
  rcases ho with ⟨_, h⟩ | ⟨g, cap, cur, h, _⟩
  · exact h
  · simp at h

theorem ORel.own_lt {F : FH} {η : Et} {n : Nat} {w : World} {i : Nat} {o : AO} (h : ORel F η n w i o) {b : Nat} (hb : own η i o = some b) : b < w.heap.size := by
  have key : ∀ {x : Obj}, w.heap[b]? = some x → b < w.heap.size := fun hx => (Array.getElem?_eq_some_iff.1 hx).1
  cases h with
  | var c E h1 h2 h2' h3 => simp only [own, Option.some.injEq] at hb; subst hb; exact key h1
  | row xs hv hs hp ho hsz h1 h => obtain ⟨cur, hg, _⟩ := own_row_blk ho hb; exact key hg
  | map ents clock h1 => simp only [own, Option.some.injEq] at hb; subst hb; exact key h1
  | iter h1 => simp only [own, Option.some.injEq] at hb; subst hb; exact key h1

theorem ORel.own_agree {F : FH} {η η' : Et} {n : Nat} {w : World} {i : Nat} {o : AO} (h : ORel F η n w i o) (hi : i < n) (ha : η.agree n η') : own η' i o = own η i o := by
  cases h with
  | var => simp only [own]; rw [(ha i hi).1]
  | row xs hv => simp only [own]; rw [(ha _ hv).2]
  | map => simp only [own]; rw [(ha i hi).1]
  | iter => simp only [own]; rw [(ha i hi).1]

theorem ORel.mono {F F' : FH} {η η' : Et} {n n' : Nat} {w w' : World} {i : Nat} {o : AO} (h : ORel F η n w i o) (hi : i < n) (hF : F.le F') (ha : η.agree n η') (hn : n ≤ n')
    (hb : ∀ b, own η i o = some b → w'.heap[b]? = w.heap[b]?) : ORel F' η' n' w' i o := by
  cases h with
  | var c E h1 h2 h2' h3 =>
    refine .var c E ?_ h2 h2' fun j hj => (h3 j hj).mono hF ha hn
    rw [(ha i hi).1, hb _ rfl]; exact h1
  | @row v E sz rows xs hv hs hp ho hsz h1 h =>
    have hh := (ha _ hv).2
    refine .row xs (Nat.lt_of_lt_of_le hv hn) (by rw [hh]; exact hs) hp ?_ hsz h1 fun k hk j hj => (h k hk j hj).mono hF ha hn
    rw [hh]
    refine ⟨ho.1, ?_⟩
    rcases ho.2 with hx | ⟨g, cap, cur, hx, h0, hg, rest⟩
    · exact .inl hx
    · refine .inr ⟨g, cap, cur, hx, h0, ?_, rest⟩
      have : own η i (.row v E sz rows) = some g := by
        simp only [own]
        unfold Hd.val at hx
        cases hbk : (η.hdr v).blk with
        | none => simp [hbk] at hx
        | some b => simp [hbk] at hx; simp [hx.1]
      rw [hb _ this]; exact hg
  | map ents clock h1 h2 h2' h3 h3' h4 h5 h6 =>
    refine .map ents clock ?_ h2 h2' h3 h3' h4 h5 fun k hk => (h6 k hk).mono hF ha hn
    rw [(ha i hi).1, hb _ rfl]; exact h1
  | iter h1 => exact .iter (by rw [(ha i hi).1, hb _ rfl]; exact h1)

/-- One object is new or is written; all else stays. -/
theorem upd {F : FH} {η η' : Et} {σ : St} {w w' : World} (hf : FRel F w) (hs : SRel F η σ w) (i : Nat) (o : AO) (n' : Nat)
    (hi : i < n') (hn : σ.next ≤ n') (ha : η.agree σ.next η') (hsz : More w w')
    (hfr : ∀ b, b < w.heap.size → (∀ oi, σ.obj i = some oi → own η i oi ≠ some b) → w'.heap[b]? = w.heap[b]?)
    (hob : ORel F η' n' w' i o)
    (hown : ∀ b, own η' i o = some b → b < w.heap.size → ∃ oi, σ.obj i = some oi ∧ own η i oi = some b) :
    Step F η σ w F η' ⟨fun j => if j = i then some o else σ.obj j, n'⟩ w' ∧ FRel F w' ∧ SRel F η' ⟨fun j => if j = i then some o else σ.obj j, n'⟩ w' := by
  have hoth : ∀ j oj b, j ≠ i → σ.obj j = some oj → own η j oj = some b → w'.heap[b]? = w.heap[b]? := by
    intro j oj b hji hj hb
    refine hfr b ((hs.ob j oj hj).own_lt hb) fun oi hoi hb' => hji (hs.ap j i oj oi b hj hoi hb hb')
  have hag : ∀ j oj, σ.obj j = some oj → own η' j oj = own η j oj := fun j oj hj => (hs.ob j oj hj).own_agree (hs.lt j oj hj) ha
  refine ⟨⟨F.le_refl, ha, hn, hsz, ?_, ?_, fun _ _ h _ => .inl h⟩, ?_, ⟨?_, ?_, ?_, ?_⟩⟩
  · exact fun b hb hno => hfr b hb fun oi hoi => hno i oi hoi
  · intro j oj b hj hb hlt
    by_cases hji : j = i
    · subst hji
      simp only [if_true, Option.some.injEq] at hj
      subst hj
      obtain ⟨oi, h1, h2⟩ := hown b hb hlt
      exact ⟨j, oi, h1, h2⟩
    · simp only [hji, if_false] at hj
      rw [hag j oj hj] at hb
      exact ⟨j, oj, hj, hb⟩
  · intro b ob hb
    have h1 := hf b ob hb
    have hlt : b < w.heap.size := (Array.getElem?_eq_some_iff.1 h1).1
    rw [hfr b hlt fun oi hoi hb' => ?_]
    · exact h1
    · have := hs.fr i oi b hoi hb'
      rw [hb] at this; cases this
  · intro j oj hj
    by_cases hji : j = i
    · subst hji; exact hi
    · simp only [hji, if_false] at hj
      exact Nat.lt_of_lt_of_le (hs.lt j oj hj) hn
  · intro j oj hj
    by_cases hji : j = i
    · subst hji
      simp only [if_true, Option.some.injEq] at hj
      subst hj
      exact hob
    · simp only [hji, if_false] at hj
      exact (hs.ob j oj hj).mono (hs.lt j oj hj) F.le_refl ha hn fun b hb => hoth j oj b hji hj hb
  · intro j k oj ok b hj hk hbj hbk
    by_cases hji : j = i
    · by_cases hki : k = i
      · omega
      · exfalso
        subst hji
        simp only [if_true, Option.some.injEq] at hj
        subst hj
        simp only [hki, if_false] at hk
        rw [hag k ok hk] at hbk
        obtain ⟨oi, h1, h2⟩ := hown b hbj ((hs.ob k ok hk).own_lt hbk)
        exact hki (hs.ap k j ok oi b hk h1 hbk h2)
    · simp only [hji, if_false] at hj
      rw [hag j oj hj] at hbj
      by_cases hki : k = i
      · exfalso
        subst hki
        simp only [if_true, Option.some.injEq] at hk
        subst hk
        obtain ⟨oi, h1, h2⟩ := hown b hbk ((hs.ob j oj hj).own_lt hbj)
        exact hji (hs.ap j k oj oi b hj h1 hbj h2)
      · simp only [hki, if_false] at hk
        rw [hag k ok hk] at hbk
        exact hs.ap j k oj ok b hj hk hbj hbk
  · intro j oj b hj hb
    by_cases hlt : b < w.heap.size
    · by_cases hji : j = i
      · subst hji
        simp only [if_true, Option.some.injEq] at hj
        subst hj
        obtain ⟨oi, h1, h2⟩ := hown b hb hlt
        exact hs.fr j oi b h1 h2
      · simp only [hji, if_false] at hj
        rw [hag j oj hj] at hb
        exact hs.fr j oj b hj hb
    · cases hF : F b with
      | none => rfl
      | some ob => exact absurd (Array.getElem?_eq_some_iff.1 (hf b ob hF)).1 hlt

/-- η with a new block for number n. -/
def Et.withBlk (η : Et) (n b : Nat) : Et := ⟨fun i => if i = n then b else η.blk i, η.hdr⟩
def Et.withHdr (η : Et) (n : Nat) (h : Hd) : Et := ⟨η.blk, fun i => if i = n then h else η.hdr i⟩
theorem Et.agree_withBlk (η : Et) (n b : Nat) : η.agree n (η.withBlk n b) :=
  fun i hi => ⟨by simp [Et.withBlk, Nat.ne_of_lt hi], rfl⟩
theorem Et.agree_withHdr (η : Et) (n : Nat) (h : Hd) : η.agree n (η.withHdr n h) :=
  fun i hi => ⟨rfl, by simp [Et.withHdr, Nat.ne_of_lt hi]⟩

/-- A new variable. -/
theorem new_var {F : FH} {η : Et} {σ : St} {w : World} (hf : FRel F w) (hs : SRel F η σ w) (cells : List AV) (c : Array Value) (E : TypeId) (hn : c.size = cells.length) (h1 : ∀ j, j < cells.length → (c.getD j undef).oneCell' = true)
    (h : ∀ j (hj : j < cells.length), VRel F η σ.next cells[j] (c.getD j undef)) :
    ∃ η', Step F η σ w F η' (σ.alloc (.var cells)) (w.alloc (.cells c E)) ∧ FRel F (w.alloc (.cells c E)) ∧ SRel F η' (σ.alloc (.var cells)) (w.alloc (.cells c E)) ∧
      η'.blk σ.next = w.heap.size := by
  have ha := Et.agree_withBlk η σ.next w.heap.size
  have hnone : ∀ oi, σ.obj σ.next = some oi → False := fun oi ho => Nat.lt_irrefl _ (hs.lt _ _ ho)
  have hblk : (η.withBlk σ.next w.heap.size).blk σ.next = w.heap.size := by simp [Et.withBlk]
  obtain ⟨g1, g2, g3⟩ := upd (η' := η.withBlk σ.next w.heap.size) (w' := w.alloc (.cells c E)) hf hs σ.next (.var cells) (σ.next + 1) (Nat.lt_succ_self _) (Nat.le_succ _) ha ⟨by simp, rfl, rfl⟩
    (fun b hb _ => heap_alloc_old w _ hb)
    (.var c E (by rw [hblk]; exact heap_alloc_new w _) hn h1 fun j hj => (h j hj).mono F.le_refl ha (Nat.le_succ _))
    (fun b hb hlt => by simp only [own, hblk, Option.some.injEq] at hb; omega)
  exact ⟨_, g1, g2, g3, hblk⟩

/-- A new row in a new block. -/
theorem new_row {F : FH} {η : Et} {σ : St} {w : World} (hf : FRel F w) (hs : SRel F η σ w) (E sz : Nat) (rows : List (List AV)) (c : Array Value) (cap : Nat)
    (hp : 0 < sz) (hcap : cap ≤ maxLen) (hc : c.size = cap * sz) (hle : rows.length ≤ cap) (hsz : ∀ r ∈ rows, r.length = sz) (h1 : ∀ j, j < rows.length * sz → (c.getD j undef).oneCell' = true)
    (h : ∀ k (hk : k < rows.length) j (hj : j < (rows[k]).length), VRel F η σ.next ((rows[k])[j]) (c.getD (k * sz + j) undef)) :
    ∃ η', Step F η σ w F η' (σ.alloc (.row σ.next E sz rows)) (w.alloc (.cells c E)) ∧ FRel F (w.alloc (.cells c E)) ∧ SRel F η' (σ.alloc (.row σ.next E sz rows)) (w.alloc (.cells c E)) ∧
      η'.hdr σ.next = ⟨some w.heap.size, cap, sz⟩ := by
  have ha := Et.agree_withHdr η σ.next ⟨some w.heap.size, cap, sz⟩
  have hh : (η.withHdr σ.next ⟨some w.heap.size, cap, sz⟩).hdr σ.next = ⟨some w.heap.size, cap, sz⟩ := by simp [Et.withHdr]
  have hlen : ∀ k, k < rows.length → ∀ j, j < sz → k * sz + j < rows.length * sz := by
    intro k hk j hj
    calc k * sz + j < k * sz + sz := by omega
      _ = (k + 1) * sz := by rw [Nat.add_mul, Nat.one_mul]
      _ ≤ rows.length * sz := Nat.mul_le_mul_right _ hk
  obtain ⟨g1, g2, g3⟩ := upd (η' := η.withHdr σ.next ⟨some w.heap.size, cap, sz⟩) (w' := w.alloc (.cells c E)) hf hs σ.next (.row σ.next E sz rows) (σ.next + 1) (Nat.lt_succ_self _) (Nat.le_succ _) ha ⟨by simp, rfl, rfl⟩
    (fun b hb _ => heap_alloc_old w _ hb)
    (.row (c.toList.take (rows.length * sz)) (Nat.lt_succ_self _) (by rw [hh]) hp
      (by
        rw [hh]
        refine ⟨?_, .inr ⟨w.heap.size, cap, c, rfl, Nat.zero_le _, heap_alloc_new w _, hle, hcap, hc, rfl⟩⟩
        have := Nat.mul_le_mul_right sz hle
        simp only [List.length_take, Array.length_toList]
        omega)
      hsz
      (fun u hu => by
        obtain ⟨j, hj, rfl⟩ := List.mem_iff_getElem.1 hu
        have hj2 : j < rows.length * sz := by simp only [List.length_take] at hj; omega
        have hj3 : j < c.size := by simp only [List.length_take, Array.length_toList] at hj; omega
        have := h1 j hj2
        simpa [Array.getD, hj3] using this)
      (fun k hk j hj => by
        have hj' : j < sz := by rw [← hsz _ (List.getElem_mem hk)]; exact hj
        have := (h k hk j hj).mono F.le_refl ha (Nat.le_succ σ.next)
        have e : (c.toList.take (rows.length * sz)).getD (k * sz + j) undef = c.getD (k * sz + j) undef := by
          simp [List.getD, hlen k hk j hj']
        rw [e]; exact this))
    (fun b hb hlt => by simp only [own, hh, Option.some.injEq] at hb; omega)
  exact ⟨_, g1, g2, g3, hh⟩

/-- A nil slice, from now on an object without elements. -/
theorem new_nil {F : FH} {η : Et} {σ : St} {w : World} (hf : FRel F w) (hs : SRel F η σ w) (E sz : Nat) (hp : 0 < sz) :
    ∃ η', Step F η σ w F η' (σ.alloc (.row σ.next E sz [])) w ∧ FRel F w ∧ SRel F η' (σ.alloc (.row σ.next E sz [])) w ∧ η'.hdr σ.next = ⟨none, 0, sz⟩ := by
  have ha := Et.agree_withHdr η σ.next ⟨none, 0, sz⟩
  have hh : (η.withHdr σ.next ⟨none, 0, sz⟩).hdr σ.next = ⟨none, 0, sz⟩ := by simp [Et.withHdr]
  obtain ⟨h1, h2, h3⟩ := upd (η' := η.withHdr σ.next ⟨none, 0, sz⟩) (w' := w) hf hs σ.next (.row σ.next E sz []) (σ.next + 1) (Nat.lt_succ_self _) (Nat.le_succ _) ha (.refl _)
    (fun b hb _ => rfl)
    (.row [] (Nat.lt_succ_self _) (by rw [hh]) hp (by rw [hh]; exact World.ownsRow_nil w 0 E sz) (by simp) (by simp) (fun k hk => by simp at hk))
    (fun b hb hlt => by simp [own, hh] at hb)
  exact ⟨_, h1, h2, h3, hh⟩

theorem Step.drew {F : FH} {η : Et} {σ : St} {w : World} : Step F η σ w F η σ w.drew :=
  ⟨F.le_refl, Et.agree_refl _ _, Nat.le_refl _, ⟨Nat.le_refl _, rfl, rfl⟩, fun _ _ _ => rfl, fun i o _ h h' _ => ⟨i, o, h, h'⟩, fun _ _ h _ => .inl h⟩
theorem SRel.drew {F : FH} {η : Et} {σ : St} {w : World} (h : SRel F η σ w) : SRel F η σ w.drew :=
  ⟨h.lt, fun i o ho => (h.ob i o ho).mono (h.lt i o ho) F.le_refl (Et.agree_refl _ _) (Nat.le_refl _) fun _ _ => rfl, h.ap, h.fr⟩
theorem FRel.drew {F : FH} {w : World} (h : FRel F w) : FRel F w.drew := h

/-- A store into a block that stands for one object. -/
theorem set_row_block {F : FH} {η : Et} {σ : St} {w : World} (hf : FRel F w) (hs : SRel F η σ w) {i : Nat} {oi o : AO} {b : Nat} (hi : σ.obj i = some oi) (hb : own η i oi = some b) (hb' : own η i o = some b)
    (cs : Array Value) (hob : ORel F η σ.next (w.setRow b cs) i o) :
    Step F η σ w F η (σ.set i o) (w.setRow b cs) ∧ FRel F (w.setRow b cs) ∧ SRel F η (σ.set i o) (w.setRow b cs) :=
  upd (η' := η) hf hs i o σ.next (hs.lt i oi hi) (Nat.le_refl _) (Et.agree_refl _ _) ⟨by simp, rfl, rfl⟩
    (fun b1 _ hno => setRow_other w b b1 cs fun e => hno oi hi (by rw [hb, e]))
    hob (fun b1 hb1 _ => ⟨oi, hi, by rw [hb, ← hb1, hb']⟩)
end Go.Pm
