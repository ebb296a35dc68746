/- The entry: what the reading of an argument gives. -/
import Derived.Test.YtghgkmifoiokjaaDoorDt
import GoSem.ClaimChange
set_option linter.unusedVariables false
set_option linter.unusedSimpArgs false
namespace Go.Pm
/-- The whole memory of a world, frozen. -/
def FW (w : World) : FH := fun b => w.heap[b]?

theorem mapM_some {α β : Type} (f : α → Option β) : ∀ (l : List α) (ys : List β), l.mapM f = some ys → ys.length = l.length ∧ ∀ i (h : i < l.length) (h' : i < ys.length), f l[i] = some ys[i]
  | [], ys, h => by simp at h; subst h; simp
  | a :: l, ys, h => by
    simp only [List.mapM_cons, Option.bind_eq_bind, Option.bind_eq_some_iff, Option.pure_def, Option.some.injEq] at h
    obtain ⟨b, hb, ys', hys, rfl⟩ := h
    obtain ⟨h1, h2⟩ := mapM_some f l ys' hys
    refine ⟨by simp [h1], fun i h h' => ?_⟩
    cases i with
    | zero => simpa using hb
    | succ i => simpa using h2 i (by simpa using h) (by simpa using h')

section rd
variable {H : Type} (en : TypeId × Value → H) (P : Program) (w : World) (base : Nat) (spare : Nat → Bool) (held : Bool)
/-- What a reading of the type gives. -/
def Rd {α : Type} (t : TypeId) (e : α → List D) (ok : α → Prop) : Prop :=
  ∀ fuel cs x, DataW.trod en P w base spare held fuel t cs = some x → ∃ y : α, ok y ∧ (e y).length = cs.length ∧ ∀ j (h : j < (e y).length), DRel (FW w) (e y)[j] (cs.getD j undef) ∧ (cs.getD j undef).oneCell' = true

variable {P} {w} {base} {spare} {held} {en}
theorem rd_string {t : TypeId} (ht : P.underlying t = some .string) : Rd en P w base spare held t eStr (fun s => s.size ≤ maxLen) := by
  intro fuel cs x h
  cases fuel with
  | zero => simp [DataW.trod] at h
  | succ fuel =>
    unfold DataW.trod at h
    rw [ht] at h
    split at h <;> first | (rename_i hq _; cases hq; done) | (rename_i hq; cases hq; done) | (rename_i hq _ _; cases hq; done) | (simp_all; done) | skip
    rename_i s _
    split at h
    · rename_i hle
      refine ⟨s, hle, rfl, fun j hj => ?_⟩
      have : j = 0 := by simp [eStr] at hj; omega
      subst this
      exact ⟨.s _, rfl⟩
    · simp at h
theorem rd_int {t : TypeId} (ht : P.underlying t = some (.int .i64)) : Rd en P w base spare held t (fun n : Int => [.s (.int .i64 n)]) (fun _ => True) := by
  intro fuel cs x h
  cases fuel with
  | zero => simp [DataW.trod] at h
  | succ fuel =>
    unfold DataW.trod at h
    rw [ht] at h
    split at h <;> first | (rename_i hq _; cases hq; done) | (rename_i hq; cases hq; done) | (rename_i hq _ _; cases hq; done) | (simp_all; done) | skip
    rename_i k k' n hq
    cases hq
    split at h
    · rename_i hle
      obtain ⟨rfl, _⟩ := hle
      refine ⟨n, trivial, rfl, fun j hj => ?_⟩
      have : j = 0 := by simp at hj; omega
      subst this
      exact ⟨.s _, rfl⟩
    · simp at h
theorem rd_bool {t : TypeId} (ht : P.underlying t = some .bool) : Rd en P w base spare held t (fun b : Bool => [.s (.bool b)]) (fun _ => True) := by
  intro fuel cs x h
  cases fuel with
  | zero => simp [DataW.trod] at h
  | succ fuel =>
    unfold DataW.trod at h
    rw [ht] at h
    split at h <;> first | (rename_i hq _; cases hq; done) | (rename_i hq; cases hq; done) | (rename_i hq _ _; cases hq; done) | (simp_all; done) | skip
    rename_i b _
    refine ⟨b, trivial, rfl, fun j hj => ?_⟩
    have : j = 0 := by simp at hj; omega
    subst this
    exact ⟨.s _, rfl⟩
theorem choose_list {α : Type} {R : Nat → α → Prop} : ∀ n : Nat, (∀ i, i < n → ∃ y, R i y) → ∃ l : List α, l.length = n ∧ ∀ i (h : i < l.length), R i l[i]
  | 0, _ => ⟨[], rfl, fun i h => by simp at h⟩
  | n + 1, h => by
    obtain ⟨l, h1, h2⟩ := choose_list n fun i hi => h i (by omega)
    obtain ⟨y, hy⟩ := h n (by omega)
    refine ⟨l ++ [y], by simp [h1], fun i hi => ?_⟩
    by_cases hil : i < l.length
    · rw [List.getElem_append_left hil]; exact h2 i hil
    · have : i = n := by simp at hi; omega
      subst this
      rw [List.getElem_append_right (by omega)]
      simpa using hy
theorem cells_at {a : Addr} {n : Nat} {cs : List Value} (h : w.cells? base a n = some cs) : cs.length = n ∧ ∀ j, j < n → w.cell? (a.add j) = some (cs.getD j undef) := by
  unfold World.cells? at h
  split at h
  · obtain ⟨h1, h2⟩ := mapM_some _ _ _ h
    simp only [List.length_range] at h1
    refine ⟨h1, fun j hj => ?_⟩
    have := h2 j (by simpa using hj) (by omega)
    simpa [List.getD, h1, hj] using this
  · cases h
theorem cell_cells {a : Addr} {v : Value} (h : w.cell? a = some v) : a.spot = none ∧ ∃ c E fz, w.heap[a.block]? = some (.cells c E fz) ∧ c[a.off]? = some v := by
  unfold World.cell? at h
  split at h
  · rename_i c E fz hb
    split at h
    · cases h
    · rename_i hs
      exact ⟨by simpa using hs, c, E, fz, hb, h⟩
  · cases h
theorem add_block (a : Addr) (n : Nat) : (a.add n).block = a.block ∧ (a.add n).off = a.off + n := by
  unfold Addr.add; split <;> simp_all
theorem rd_slice {α : Type} {t el sz : Nat} {e : α → List D} {ok : α → Prop} (ht : P.underlying t = some (.slice el)) (hE : Rd en P w base spare held el e ok) (hsz : P.cellsOf el = sz) (hp : 0 < sz) (hes : ∀ y : α, (e y).length = sz) :
    Rd en P w base spare held t (fun l : List α => [.im (l.map e)]) (fun l => l.length ≤ maxLen ∧ ∀ x ∈ l, ok x) := by
  intro fuel cs x h
  cases fuel with
  | zero => simp [DataW.trod] at h
  | succ fuel =>
    unfold DataW.trod at h
    rw [ht] at h
    split at h <;> first | (rename_i hq _; cases hq; done) | (rename_i hq; cases hq; done) | (rename_i hq _ _; cases hq; done) | (simp_all; done) | skip
    · refine ⟨[], ⟨by simp, by simp⟩, rfl, fun j hj => ?_⟩
      have : j = 0 := by simp at hj; omega
      subst this
      exact ⟨.im0 none 0, rfl⟩
    · rename_i e' a len cap hq
      cases hq
      simp only at h
      split at h
      · rename_i hb
        obtain ⟨elems, hel, _⟩ := Option.bind_eq_some_iff.1 h
        obtain ⟨h1, h2⟩ := mapM_some _ _ _ hel
        simp only [List.length_range] at h1
        have key : ∀ i, i < len → ∃ y : α, ok y ∧ ∀ j, j < sz → ∃ v, w.cell? ((a.add (i * sz)).add j) = some v ∧ v.oneCell' = true ∧ ∀ (hj : j < (e y).length), DRel (FW w) (e y)[j] v := by
          intro i hi
          have h3 := h2 i (by simpa using hi) (by omega)
          simp only [List.getElem_range] at h3
          obtain ⟨ci, hci, htr⟩ := Option.bind_eq_some_iff.1 h3
          rw [hsz] at hci
          obtain ⟨h4, h5⟩ := cells_at hci
          obtain ⟨y, hy, hyl, hyr⟩ := hE fuel ci _ htr
          exact ⟨y, hy, fun j hj => ⟨ci.getD j undef, h5 j hj, (hyr j (by rw [hes]; exact hj)).2, fun hj' => (hyr j hj').1⟩⟩
        obtain ⟨l, hl, hr⟩ := choose_list len key
        refine ⟨l, ⟨by omega, fun x hx => ?_⟩, rfl, fun j hj => ?_⟩
        · obtain ⟨i, hi⟩ := List.getElem?_of_mem hx
          obtain ⟨hi1, hi2⟩ := List.getElem?_eq_some_iff.1 hi
          rw [← hi2]; exact (hr i hi1).1
        · have : j = 0 := by simp at hj; omega
          subst this
          refine ⟨?_, rfl⟩
          show DRel (FW w) (.im (l.map e)) (.slice (some a) len cap)
          rcases Nat.eq_zero_or_pos len with h0 | hpos
          · subst h0
            have : l = [] := List.eq_nil_of_length_eq_zero hl
            subst this
            exact .im0 _ _
          · obtain ⟨v0, hv0, _⟩ := (hr 0 (by omega)).2 0 hp
            obtain ⟨hs0, c, E, fz, hheap, _⟩ := cell_cells hv0
            have hb0 := (add_block (a.add (0 * sz)) 0).1
            rw [(add_block a (0 * sz)).1] at hb0
            rw [hb0] at hheap
            have hsp : a.spot = none := by simpa [Addr.add] using hs0
            have hcell : ∀ i (hi : i < l.length) j, j < sz → c[a.off + i * sz + j]? = some (c.getD (a.off + i * sz + j) undef) ∧ (c.getD (a.off + i * sz + j) undef).oneCell' = true ∧ ∀ hj : j < (e l[i]).length, DRel (FW w) (e l[i])[j] (c.getD (a.off + i * sz + j) undef) := by
              intro i hi j hj
              obtain ⟨v, hv, ho, hd⟩ := (hr i hi).2 j hj
              obtain ⟨_, c', E', fz', hh', hc'⟩ := cell_cells hv
              have e1 := add_block (a.add (i * sz)) j
              have e2 := add_block a (i * sz)
              rw [e1.1, e2.1, hheap] at hh'
              rw [e1.2, e2.2] at hc'
              cases hh'
              have hg : c.getD (a.off + i * sz + j) undef = v := by rw [Array.getD_eq_getD_getElem?, hc']; rfl
              rw [hg]
              exact ⟨hc', ho, hd⟩
            have ha : a = ⟨a.block, a.off, none⟩ := by cases a; simp_all
            have key2 : DRel (FW w) (.im (l.map e)) (.slice (some ⟨a.block, a.off, none⟩) (l.map e).length cap) := by
              refine .im _ a.block a.off cap sz c E fz (fun k j => c.getD (a.off + k * sz + j) undef) hheap (by simp; omega) ?_ ?_ ?_ ?_
              · intro r hr'
                obtain ⟨y, _, rfl⟩ := List.mem_map.1 hr'
                exact hes y
              · intro k hk j hj
                exact (hcell k (by simpa using hk) j hj).1
              · intro k hk j hj
                exact (hcell k (by simpa using hk) j hj).2.1
              · intro k hk j hj
                have hk' : k < l.length := by simpa using hk
                have hj' : j < (e l[k]).length := by simpa using hj
                have := (hcell k hk' j (by rw [← hes l[k]]; exact hj')).2.2 hj'
                simpa using this
            rw [List.length_map, hl, ← ha] at key2
            exact key2
      · cases h
/-- What a reading of fields that lie one behind the other gives. -/
def RdF (en : TypeId × Value → H) (P : Program) (w : World) (base : Nat) (spare : Nat → Bool) (held : Bool) {α : Type} (o : Nat) (fs : List Field) (e : α → List D) (ok : α → Prop) : Prop :=
  ∀ (fuel : Nat) (cs : List Value) (xs : List (DataW H × List MemPlace)), (fs.mapM fun f => DataW.trod en P w base spare held fuel f.type ((cs.drop f.offset).take (P.cellsOf f.type))) = some xs →
    ∃ y : α, ok y ∧ ∀ j (h : j < (e y).length), DRel (FW w) (e y)[j] (cs.getD (o + j) undef) ∧ (cs.getD (o + j) undef).oneCell' = true
theorem rdF_nil {o : Nat} : RdF en P w base spare held o [] (fun _ : Unit => []) (fun _ => True) :=
  fun _ _ _ _ => ⟨(), trivial, fun j h => by simp at h⟩
theorem rdF_cons {α β : Type} {o s : Nat} {f : Field} {fs : List Field} {e0 : α → List D} {e1 : β → List D} {ok0 : α → Prop} {ok1 : β → Prop} (h0 : Rd en P w base spare held f.type e0 ok0) (ho : f.offset = o) (hs : ∀ y, (e0 y).length = s)
    (h1 : RdF en P w base spare held (o + s) fs e1 ok1) : RdF en P w base spare held o (f :: fs) (fun p : α × β => e0 p.1 ++ e1 p.2) (fun p => ok0 p.1 ∧ ok1 p.2) := by
  intro fuel cs xs h
  simp only [List.mapM_cons, Option.bind_eq_bind, Option.bind_eq_some_iff, Option.pure_def, Option.some.injEq] at h
  obtain ⟨x, hx, xs', hxs, rfl⟩ := h
  obtain ⟨y, hy, hyl, hyr⟩ := h0 fuel _ _ hx
  obtain ⟨z, hz, hzr⟩ := h1 fuel cs xs' hxs
  refine ⟨(y, z), ⟨hy, hz⟩, fun j hj => ?_⟩
  by_cases hjs : j < (e0 y).length
  · have := hyr j hjs
    have hg : ((cs.drop f.offset).take (P.cellsOf f.type)).getD j undef = cs.getD (o + j) undef := by
      have hlt : j < ((cs.drop f.offset).take (P.cellsOf f.type)).length := by omega
      simp only [List.length_take, List.length_drop] at hlt
      simp only [List.getD, List.getElem?_take, List.getElem?_drop, ho]
      rw [if_pos (by omega)]
    rw [hg] at this
    simpa [List.getElem_append_left hjs] using this
  · simp only [List.length_append] at hj
    have := hzr (j - (e0 y).length) (by omega)
    have hidx : o + s + (j - (e0 y).length) = o + j := by rw [hs y] at hjs ⊢; omega
    rw [hidx] at this
    have hel : (e0 y ++ e1 z)[j]'(by simp only [List.length_append]; exact hj) = (e1 z)[j - (e0 y).length]'(by omega) := List.getElem_append_right (by omega)
    refine ⟨?_, this.2⟩
    show DRel (FW w) ((e0 y ++ e1 z)[j]'(by simp only [List.length_append]; exact hj)) _
    rw [hel]
    exact this.1
theorem rd_struct {α : Type} {t n : Nat} {fs : Array Field} {e : α → List D} {ok : α → Prop} (ht : P.underlying t = some (.struct fs)) (hn : P.cellsOf t = n) (hl : ∀ y, (e y).length = n) (h : RdF en P w base spare held 0 fs.toList e ok) : Rd en P w base spare held t e ok := by
  intro fuel cs x hx
  cases fuel with
  | zero => simp [DataW.trod] at hx
  | succ fuel =>
    unfold DataW.trod at hx
    rw [ht] at hx
    split at hx <;> first | (rename_i hq _; cases hq; done) | (rename_i hq; cases hq; done) | (rename_i hq _ _; cases hq; done) | (simp_all; done) | skip
    rename_i hq
    cases hq
    split at hx
    · rename_i hlen
      obtain ⟨xs, hxs, _⟩ := Option.map_eq_some_iff.1 hx
      obtain ⟨y, hy, hr⟩ := h fuel _ xs hxs
      exact ⟨y, hy, by rw [hl, hlen, hn], fun j hj => by simpa using hr j hj⟩
    · cases hx
theorem rd_map {α β : Type} {t : TypeId} {e : α → List D} {e' : β → List D} {ok : α → Prop} {ok' : β → Prop} (g : α → β) (he : ∀ y, e' (g y) = e y) (hok : ∀ y, ok y → ok' (g y)) (h : Rd en P w base spare held t e ok) : Rd en P w base spare held t e' ok' := by
  intro fuel cs x hx
  obtain ⟨y, h1, h2, h3⟩ := h fuel cs x hx
  refine ⟨g y, hok y h1, by rw [he]; exact h2, fun j hj => ?_⟩
  simp only [he] at hj ⊢
  exact h3 j hj
end rd
end Go.Pm
