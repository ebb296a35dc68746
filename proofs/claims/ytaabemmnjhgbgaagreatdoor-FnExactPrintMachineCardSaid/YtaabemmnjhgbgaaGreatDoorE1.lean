/- The entry: what the reading of an argument gives. -/
import Derived.Test.YtaabemmnjhgbgaaGreatDoorA4
import GoSem.ClaimChange
import Derived.Carry
import Derived.OpenVars
import Derived.ChangeAlike
import Derived.ProofKit
import Derived.LaidMore
import Derived.OpenShut
import Derived.Test.YtaabemmnjhgbgaaGreatDoorB1
import Derived.MakeChecks
import Derived.Test.YtaabemmnjhgbgaaGreatDoorRows
set_option linter.unusedVariables false
set_option linter.unusedSimpArgs false
namespace Go.Pm
/-- The whole memory of a world, frozen. -/
def FW (w : World) : FH := fun b => w.heap[b]?

theorem mapM_some {α β : Type} (f : α → Option β) : ∀ (l : List α) (ys : List β), l.mapM f = some ys → ys.length = l.length ∧ ∀ i (h : i < l.length) (h' : i < ys.length), f l[i] = some ys[i]
  | [], ys, h => by simp at h; subst h; simp
  | a :: l, ys, h => by
    simp only [List.mapM_cons, Option.bind_eq_bind, Option.bind_eq_some_iff, Option.pure_def, Option.some.injEq] at h
    obtain ⟨b, hb, ys', hys, rfl⟩ := h
    obtain ⟨h1, h2⟩ := mapM_some f l ys' hys
    refine ⟨by simp [h1], fun i h h' => ?_⟩
    cases i with
    | zero => simpa using hb
    | succ i => simpa using h2 i (by simpa using h) (by simpa using h')

section rd
variable {H : Type} (en : TypeId × Value → H) (P : Program) (w : World) (base : Nat) (spare : Nat → Bool) (held : Bool)
/-- What a reading of the type gives. -/
def Rd {α : Type} (t : TypeId) (e : α → List D) (ok : α → Prop) : Prop :=
  ∀ fuel cs x, DataW.trod en P w base spare held fuel t cs = some x → ∃ y : α, ok y ∧ (e y).length = cs.length ∧ ∀ j (h : j < (e y).length), DRel (FW w) (e y)[j] (cs.getD j undef) ∧ (cs.getD j undef).oneCell' = true

variable {P} {w} {base} {spare} {held} {en}
theorem rd_string {t : TypeId} (ht : P.underlying t = some .string) : Rd en P w base spare held t eStr (fun s => s.size ≤ maxLen) := by
  intro fuel cs x h
  cases fuel with
  | zero => simp [DataW.trod] at h
  | succ fuel =>
    unfold DataW.trod at h
    rw [ht] at h
    split at h <;> first | (rename_i hq _; cases hq; done) | (rename_i hq; cases hq; done) | (rename_i hq _ _; cases hq; done) | (simp_all; done) | skip
    rename_i s _
    split at h
    · rename_i hle
      refine ⟨s, hle, rfl, fun j hj => ?_⟩
      have : j = 0 := by simp [eStr] at hj; omega
      subst this
      exact ⟨.s _, rfl⟩
    · simp at h
theorem rd_int {t : TypeId} (ht : P.underlying t = some (.int .i64)) : Rd en P w base spare held t (fun n : Int => [.s (.int .i64 n)]) (fun _ => True) := by
  intro fuel cs x h
  cases fuel with
  | zero => simp [DataW.trod] at h
  | succ fuel =>
    unfold DataW.trod at h
    rw [ht] at h
    split at h <;> first | (rename_i hq _; cases hq; done) | (rename_i hq; cases hq; done) | (rename_i hq _ _; cases hq; done) | (simp_all; done) | skip
    rename_i k k' n hq
    cases hq
    split at h
    · rename_i hle
      obtain ⟨rfl, _⟩ := hle
      refine ⟨n, trivial, rfl, fun j hj => ?_⟩
      have : j = 0 := by simp at hj; omega
      subst this
      exact ⟨.s _, rfl⟩
    · simp at h
theorem rd_bool {t : TypeId} (ht : P.underlying t = some .bool) : Rd en P w base spare held t (fun b : Bool => [.s (.bool b)]) (fun _ => True) := by
  intro fuel cs x h
  cases fuel with
  | zero => simp [DataW.trod] at h
  | succ fuel =>
    unfold DataW.trod at h
    rw [ht] at h
    split at h <;> first | (rename_i hq _; cases hq; done) | (rename_i hq; cases hq; done) | (rename_i hq _ _; cases hq; done) | (simp_all; done) | skip
    rename_i b _
    refine ⟨b, trivial, rfl, fun j hj => ?_⟩
    have : j = 0 := by simp at hj; omega
    subst this
    exact ⟨.s _, rfl⟩
theorem choose_list {α : Type} {R : Nat → α → Prop} : ∀ n : Nat, (∀ i, i < n → ∃ y, R i y) → ∃ l : List α, l.length = n ∧ ∀ i (h : i < l.length), R i l[i]
  | 0, _ => ⟨[], rfl, fun i h => by simp at h⟩
  | n + 1, h => by
    obtain ⟨l, h1, h2⟩ := choose_list n fun i hi => h i (by omega)
    obtain ⟨y, hy⟩ := h n (by omega)
    refine ⟨l ++ [y], by simp [h1], fun i hi => ?_⟩
    by_cases hil : i < l.length
    · rw [List.getElem_append_left hil]; exact h2 i hil
    · have : i = n := by simp at hi; omega
      subst this
      rw [List.getElem_append_right (by omega)]
      simpa using hy
theorem cells_at {a : Addr} {n : Nat} {cs : List Value} (h : w.cells? base a n = some cs) : cs.length = n ∧ ∀ j, j < n → w.cell? (a.add j) = some (cs.getD j undef) := by
  unfold World.cells? at h
  split at h
  · obtain ⟨h1, h2⟩ := mapM_some _ _ _ h
    simp only [List.length_range] at h1
    refine ⟨h1, fun j hj => ?_⟩
    have := h2 j (by simpa using hj) (by omega)
    simpa [List.getD, h1, hj] using this
  · cases h
theorem cell_cells {a : Addr} {v : Value} (h : w.cell? a = some v) : a.spot = none ∧ ∃ c E fz, w.heap[a.block]? = some (.cells c E fz) ∧ c[a.off]? = some v := by
  unfold World.cell? at h
  split at h
  · rename_i c E fz hb
    split at h
    · cases h
    · rename_i hs
      exact ⟨by simpa using hs, c, E, fz, hb, h⟩
  · cases h
theorem add_block (a : Addr) (n : Nat) : (a.add n).block = a.block ∧ (a.add n).off = a.off + n := by
  unfold Addr.add; split <;> simp_all
theorem rd_slice {α : Type} {t el sz : Nat} {e : α → List D} {ok : α → Prop} (ht : P.underlying t = some (.slice el)) (hE : Rd en P w base spare held el e ok) (hsz : P.cellsOf el = sz) (hp : 0 < sz) (hes : ∀ y : α, (e y).length = sz) :
    Rd en P w base spare held t (fun l : List α => [.im (l.map e)]) (fun l => l.length ≤ maxLen ∧ ∀ x ∈ l, ok x) := by
  intro fuel cs x h
  cases fuel with
  | zero => simp [DataW.trod] at h
  | succ fuel =>
    unfold DataW.trod at h
    rw [ht] at h
    split at h <;> first | (rename_i hq _; cases hq; done) | (rename_i hq; cases hq; done) | (rename_i hq _ _; cases hq; done) | (simp_all; done) | skip
    · refine ⟨[], ⟨by simp, by simp⟩, rfl, fun j hj => ?_⟩
      have : j = 0 := by simp at hj; omega
      subst this
      exact ⟨.im0 none 0, rfl⟩
    · rename_i e' a len cap hq
      cases hq
      simp only at h
      split at h
      · rename_i hb
        obtain ⟨elems, hel, _⟩ := Option.bind_eq_some_iff.1 h
        obtain ⟨h1, h2⟩ := mapM_some _ _ _ hel
        simp only [List.length_range] at h1
        have key : ∀ i, i < len → ∃ y : α, ok y ∧ ∀ j, j < sz → ∃ v, w.cell? ((a.add (i * sz)).add j) = some v ∧ v.oneCell' = true ∧ ∀ (hj : j < (e y).length), DRel (FW w) (e y)[j] v := by
          intro i hi
          have h3 := h2 i (by simpa using hi) (by omega)
          simp only [List.getElem_range] at h3
          obtain ⟨ci, hci, htr⟩ := Option.bind_eq_some_iff.1 h3
          rw [hsz] at hci
          obtain ⟨h4, h5⟩ := cells_at hci
          obtain ⟨y, hy, hyl, hyr⟩ := hE fuel ci _ htr
          exact ⟨y, hy, fun j hj => ⟨ci.getD j undef, h5 j hj, (hyr j (by rw [hes]; exact hj)).2, fun hj' => (hyr j hj').1⟩⟩
        obtain ⟨l, hl, hr⟩ := choose_list len key
        refine ⟨l, ⟨by omega, fun x hx => ?_⟩, rfl, fun j hj => ?_⟩
        · obtain ⟨i, hi⟩ := List.getElem?_of_mem hx
          obtain ⟨hi1, hi2⟩ := List.getElem?_eq_some_iff.1 hi
          rw [← hi2]; exact (hr i hi1).1
        · have : j = 0 := by simp at hj; omega
          subst this
          refine ⟨?_, rfl⟩
          show DRel (FW w) (.im (l.map e)) (.slice (some a) len cap)
          rcases Nat.eq_zero_or_pos len with h0 | hpos
          · subst h0
            have : l = [] := List.eq_nil_of_length_eq_zero hl
            subst this
            exact .im0 _ _
          · obtain ⟨v0, hv0, _⟩ := (hr 0 (by omega)).2 0 hp
            obtain ⟨hs0, c, E, fz, hheap, _⟩ := cell_cells hv0
            have hb0 := (add_block (a.add (0 * sz)) 0).1
            rw [(add_block a (0 * sz)).1] at hb0
            rw [hb0] at hheap
            have hsp : a.spot = none := by simpa [Addr.add] using hs0
            have hcell : ∀ i (hi : i < l.length) j, j < sz → c[a.off + i * sz + j]? = some (c.getD (a.off + i * sz + j) undef) ∧ (c.getD (a.off + i * sz + j) undef).oneCell' = true ∧ ∀ hj : j < (e l[i]).length, DRel (FW w) (e l[i])[j] (c.getD (a.off + i * sz + j) undef) := by
              intro i hi j hj
              obtain ⟨v, hv, ho, hd⟩ := (hr i hi).2 j hj
              obtain ⟨_, c', E', fz', hh', hc'⟩ := cell_cells hv
              have e1 := add_block (a.add (i * sz)) j
              have e2 := add_block a (i * sz)
              rw [e1.1, e2.1, hheap] at hh'
              rw [e1.2, e2.2] at hc'
              cases hh'
              have hg : c.getD (a.off + i * sz + j) undef = v := by rw [Array.getD_eq_getD_getElem?, hc']; rfl
              rw [hg]
              exact ⟨hc', ho, hd⟩
            have ha : a = ⟨a.block, a.off, none⟩ := by cases a; simp_all
            have key2 : DRel (FW w) (.im (l.map e)) (.slice (some ⟨a.block, a.off, none⟩) (l.map e).length cap) := by
              refine .im _ a.block a.off cap sz c E fz (fun k j => c.getD (a.off + k * sz + j) undef) hheap (by simp; omega) ?_ ?_ ?_ ?_
              · intro r hr'
                obtain ⟨y, _, rfl⟩ := List.mem_map.1 hr'
                exact hes y
              · intro k hk j hj
                exact (hcell k (by simpa using hk) j hj).1
              · intro k hk j hj
                exact (hcell k (by simpa using hk) j hj).2.1
              · intro k hk j hj
                have hk' : k < l.length := by simpa using hk
                have hj' : j < (e l[k]).length := by simpa using hj
                have := (hcell k hk' j (by rw [← hes l[k]]; exact hj')).2.2 hj'
                simpa using this
            rw [List.length_map, hl, ← ha] at key2
            exact key2
      · cases h
/-- What a reading of fields that lie one behind the other gives. -/
def RdF (en : TypeId × Value → H) (P : Program) (w : World) (base : Nat) (spare : Nat → Bool) (held : Bool) {α : Type} (o : Nat) (fs : List Field) (e : α → List D) (ok : α → Prop) : Prop :=
  ∀ (fuel : Nat) (cs : List Value) (xs : List (DataW H × List MemPlace)), (fs.mapM fun f => DataW.trod en P w base spare held fuel f.type ((cs.drop f.offset).take (P.cellsOf f.type))) = some xs →
    ∃ y : α, ok y ∧ ∀ j (h : j < (e y).length), DRel (FW w) (e y)[j] (cs.getD (o + j) undef) ∧ (cs.getD (o + j) undef).oneCell' = true
theorem rdF_nil {o : Nat} : RdF en P w base spare held o [] (fun _ : Unit => []) (fun _ => True) :=
  fun _ _ _ _ => ⟨(), trivial, fun j h => by simp at h⟩
theorem rdF_cons {α β : Type} {o s : Nat} {f : Field} {fs : List Field} {e0 : α → List D} {e1 : β → List D} {ok0 : α → Prop} {ok1 : β → Prop} (h0 : Rd en P w base spare held f.type e0 ok0) (ho : f.offset = o) (hs : ∀ y, (e0 y).length = s)
    (h1 : RdF en P w base spare held (o + s) fs e1 ok1) : RdF en P w base spare held o (f :: fs) (fun p : α × β => e0 p.1 ++ e1 p.2) (fun p => ok0 p.1 ∧ ok1 p.2) := by
  intro fuel cs xs h
  simp only [List.mapM_cons, Option.bind_eq_bind, Option.bind_eq_some_iff, Option.pure_def, Option.some.injEq] at h
  obtain ⟨x, hx, xs', hxs, rfl⟩ := h
  obtain ⟨y, hy, hyl, hyr⟩ := h0 fuel _ _ hx
  obtain ⟨z, hz, hzr⟩ := h1 fuel cs xs' hxs
  refine ⟨(y, z), ⟨hy, hz⟩, fun j hj => ?_⟩
  by_cases hjs : j < (e0 y).length
  · have := hyr j hjs
    have hg : ((cs.drop f.offset).take (P.cellsOf f.type)).getD j undef = cs.getD (o + j) undef := by
      have hlt : j < ((cs.drop f.offset).take (P.cellsOf f.type)).length := by omega
      simp only [List.length_take, List.length_drop] at hlt
      simp only [List.getD, List.getElem?_take, List.getElem?_drop, ho]
      rw [if_pos (by omega)]
    rw [hg] at this
    simpa [List.getElem_append_left hjs] using this
  · simp only [List.length_append] at hj
    have := hzr (j - (e0 y).length) (by omega)
    have hidx : o + s + (j - (e0 y).length) = o + j := by rw [hs y] at hjs ⊢; omega
    rw [hidx] at this
    have hel : (e0 y ++ e1 z)[j]'(by simp only [List.length_append]; exact hj) = (e1 z)[j - (e0 y).length]'(by omega) := List.getElem_append_right (by omega)
    refine ⟨?_, this.2⟩
    show DRel (FW w) ((e0 y ++ e1 z)[j]'(by simp only [List.length_append]; exact hj)) _
    rw [hel]
    exact this.1
theorem rd_struct {α : Type} {t n : Nat} {fs : Array Field} {e : α → List D} {ok : α → Prop} (ht : P.underlying t = some (.struct fs)) (hn : P.cellsOf t = n) (hl : ∀ y, (e y).length = n) (h : RdF en P w base spare held 0 fs.toList e ok) : Rd en P w base spare held t e ok := by
  intro fuel cs x hx
  cases fuel with
  | zero => simp [DataW.trod] at hx
  | succ fuel =>
    unfold DataW.trod at hx
    rw [ht] at hx
    split at hx <;> first | (rename_i hq _; cases hq; done) | (rename_i hq; cases hq; done) | (rename_i hq _ _; cases hq; done) | (simp_all; done) | skip
    rename_i hq
    cases hq
    split at hx
    · rename_i hlen
      obtain ⟨xs, hxs, _⟩ := Option.map_eq_some_iff.1 hx
      obtain ⟨y, hy, hr⟩ := h fuel _ xs hxs
      exact ⟨y, hy, by rw [hl, hlen, hn], fun j hj => by simpa using hr j hj⟩
    · cases hx
theorem rd_map {α β : Type} {t : TypeId} {e : α → List D} {e' : β → List D} {ok : α → Prop} {ok' : β → Prop} (g : α → β) (he : ∀ y, e' (g y) = e y) (hok : ∀ y, ok y → ok' (g y)) (h : Rd en P w base spare held t e ok) : Rd en P w base spare held t e' ok' := by
  intro fuel cs x hx
  obtain ⟨y, h1, h2, h3⟩ := h fuel cs x hx
  refine ⟨g y, hok y h1, by rw [he]; exact h2, fun j hj => ?_⟩
  simp only [he] at hj ⊢
  exact h3 j hj
end rd
end Go.Pm
/- The entry: what the reading of a listed map gives, and the way from a call of the machine to the row's end. -/
set_option linter.unusedVariables false
set_option linter.unusedSimpArgs false
namespace Go.Pm
def litV : Lit → Value
  | .bool b => .bool b
  | .int k n => .int k n
  | .string l => .string ⟨⟨l⟩⟩
  | _ => undef
def litO {H : Type} : DataW H → Value
  | .lit l => litV l
  | _ => undef
def mapEnts {H : Type} : DataW H → List (Lit × DataW H)
  | .map l => l
  | _ => []
def litMap {H : Type} (g : List (Lit × DataW H)) : List (Value × D) := g.map fun y => (litV y.1, .s (litO y.2))
def distB : List Value → Bool
  | [] => true
  | x :: l => l.all (fun y => !keyEq x y && !keyEq y x) && distB l
def litB {H : Type} : DataW H → Bool
  | .lit (.bool _) | .lit (.int _ _) | .lit (.string _) => true
  | _ => false
theorem distB_at : ∀ {l : List Value}, distB l = true → ∀ i j (hi : i < l.length) (hj : j < l.length), keyEq l[i] l[j] = true → i = j
  | [], _, i, j, hi, _, _ => by simp at hi
  | x :: l, h, i, j, hi, hj, he => by
    simp only [distB, Bool.and_eq_true, List.all_eq_true, Bool.not_eq_true'] at h
    match i, j with
    | 0, 0 => rfl
    | 0, j + 1 => have := (h.1 (l[j]'(by simpa using hj)) (List.getElem_mem _)).1; simp at he; rw [this] at he; cases he
    | i + 1, 0 => have := (h.1 (l[i]'(by simpa using hi)) (List.getElem_mem _)).2; simp at he; rw [this] at he; cases he
    | i + 1, j + 1 => have := distB_at h.2 i j (by simpa using hi) (by simpa using hj) (by simpa using he); omega
theorem insert_perm {H : Type} (x : Lit × DataW H) : ∀ l : List (Lit × DataW H), (DataW.insert x l).Perm (x :: l)
  | [] => .refl _
  | y :: r => by
    simp only [DataW.insert]
    split
    · exact .refl _
    · exact (List.Perm.cons y (insert_perm x r)).trans (List.Perm.swap x y r)
theorem sorted_perm {H : Type} : ∀ l : List (Lit × DataW H), (l.foldr DataW.insert []).Perm l
  | [] => .refl _
  | x :: l => (insert_perm x _).trans ((sorted_perm l).cons x)
theorem key_lit {P : Program} {k : TypeId} {v : Value} {l : Lit} (hk : P.underlying k = some .string ∨ P.underlying k = some (.int .i64)) (h : keyOf P k v = some l) : v = litV l := by
  rcases hk with hk | hk <;> simp only [keyOf, hk, mapKey] at h <;> cases v <;> simp at h
  · obtain ⟨_, rfl⟩ := h; rfl
  · obtain ⟨⟨rfl, _⟩, rfl⟩ := h; rfl
theorem cells_one {v u : Value} {P : Program} {t : TypeId} (hv : v.cells.toList = [u]) (hf : v.formed P t = true) (hn : ∀ cs, v ≠ .agg cs) : v = u := by
  cases v <;> first | exact absurd rfl (hn _) | (simp [Value.formed] at hf; done) | (simpa [Value.cells] using hv)
theorem val_lit {H : Type} {en : TypeId × Value → H} {P : Program} {w : World} {base : Nat} {spare : Nat → Bool} {held : Bool} {e : TypeId} {v : Value} {fuel : Nat} {d : DataW H} {ps : List MemPlace}
    (he : P.underlying e = some .bool ∨ P.underlying e = some .string ∨ P.underlying e = some (.int .i64)) (hf : v.formed P e = true) (h : DataW.trod en P w base spare held fuel e v.cells.toList = some (d, ps)) : v = litO d := by
  have hn : ∀ cs, v ≠ .agg cs := by
    intro cs hv
    subst hv
    rcases he with he | he | he <;> simp [Value.formed, he] at hf
  cases fuel with
  | zero => simp [DataW.trod] at h
  | succ fuel =>
    rcases he with he | he | he <;> unfold DataW.trod at h <;> rw [he] at h <;>
      (split at h <;> first | (rename_i hq _; cases hq; done) | (rename_i hq; cases hq; done) | (rename_i hq _ _; cases hq; done) | (simp_all; done) | skip)
    · rename_i hc
      obtain ⟨rfl, _⟩ : _ ∧ _ := by simpa using h
      exact cells_one hc hf hn
    · rename_i hc
      split at h
      · obtain ⟨rfl, _⟩ : _ ∧ _ := by simpa using h
        exact cells_one hc hf hn
      · cases h
    · rename_i hc hq
      cases hc
      split at h
      · rename_i hk
        obtain ⟨rfl, _⟩ : _ ∧ _ := by simpa using h
        rw [cells_one hq hf hn, hk.1]; rfl
      · cases h
theorem litMap_len {H : Type} (g : List (Lit × DataW H)) : (litMap g).length = g.length := by simp [litMap]
theorem choose_fn {n : Nat} {R : Nat → Nat → Prop} (h : ∀ k, k < n → ∃ j, R k j) : ∃ π : Nat → Nat, ∀ k, k < n → R k (π k) := by
  refine ⟨fun k => if hk : k < n then (h k hk).choose else 0, fun k hk => ?_⟩
  simp only [hk, dif_pos]
  exact (h k hk).choose_spec
theorem ent_map {H : Type} {en : TypeId × Value → H} {P : Program} {w : World} {base : Nat} {spare : Nat → Bool} {held : Bool} {t k e : TypeId} {kk : KD} {fuel : Nat} {cs : List Value} {g : List (Lit × DataW H)} {ps : List MemPlace}
    (ht : P.underlying t = some (.map k e)) (hk : P.underlying k = some .string ∨ P.underlying k = some (.int .i64)) (he : P.underlying e = some .bool ∨ P.underlying e = some .string ∨ P.underlying e = some (.int .i64))
    (hf : ((litMap g).all fun y => keyFit kk y.1) = true) (hd : distB ((litMap g).map (·.1)) = true) (h : DataW.trod en P w base spare held fuel t cs = some (.map g, ps)) :
    ∃ v, cs = [v] ∧ v.oneCell' = true ∧ DRel (FW w) (.mp kk (litMap g)) v := by
  cases fuel with
  | zero => simp [DataW.trod] at h
  | succ fuel =>
    unfold DataW.trod at h
    rw [ht] at h
    split at h <;> first | (rename_i hq _; cases hq; done) | (rename_i hq; cases hq; done) | (rename_i hq _ _; cases hq; done) | (simp_all; done) | skip
    rename_i k' e' b hq
    cases hq
    refine ⟨_, rfl, rfl, ?_⟩
    split at h
    · rename_i es clock hb
      split at h
      · obtain ⟨en0, hen, hs⟩ := Option.bind_eq_some_iff.1 h
        simp only at hs
        split at hs
        · simp only [Option.some.injEq, Prod.mk.injEq, DataW.map.injEq] at hs
          obtain ⟨hg, _⟩ := hs
          have hperm : (en0.map (·.1)).Perm g := by rw [← hg]; exact (sorted_perm _).symm
          obtain ⟨h1, h2⟩ := mapM_some _ _ _ hen
          have hlen : en0.length = g.length := by simpa using hperm.length_eq
          have hes : es.size = g.length := by rw [← hlen, h1]; simp
          have hent : ∀ j (hj : j < es.size) (hj' : j < en0.length), es[j].key = litV en0[j].1.1 ∧ es[j].val = litO en0[j].1.2 := by
            intro j hj hj'
            have h3 := h2 j (by simpa using hj) hj'
            obtain ⟨key, hkey, h4⟩ := Option.bind_eq_some_iff.1 h3
            split at h4
            · rename_i hfo
              obtain ⟨y, hy, h5⟩ := Option.map_eq_some_iff.1 h4
              rw [← h5]
              simp only [Array.getElem_toList] at hkey hy hfo
              obtain ⟨yd, yp⟩ := y
              exact ⟨key_lit hk hkey, val_lit he hfo hy⟩
            · cases h4
          have hdist : ∀ i j (hi : i < g.length) (hj : j < g.length), g[i].1 = g[j].1 → i = j := by
            intro i j hi hj hij
            have hi' : i < ((litMap g).map (·.1)).length := by simpa [litMap] using hi
            have hj' : j < ((litMap g).map (·.1)).length := by simpa [litMap] using hj
            refine distB_at hd i j hi' hj' ?_
            have hfi := List.all_eq_true.1 hf ((litMap g)[i]'(by simpa [litMap] using hi)) (List.getElem_mem _)
            simp only [litMap, List.getElem_map] at hfi
            simp only [litMap, List.map_map, List.getElem_map, Function.comp, ← hij]
            revert hfi
            cases kk <;> cases hg1 : litV (g[i].1) <;> simp [keyFit, keyEq]
          have hnd : g.Pairwise (fun a b => a ≠ b) := by
            rw [List.pairwise_iff_getElem]
            intro i j hi hj hij he
            have := hdist i j hi hj (by rw [he])
            omega
          have hnd2 : (en0.map (·.1)).Pairwise (fun a b => a ≠ b) := (hperm.pairwise_iff (fun h => Ne.symm h)).2 hnd
          have hinj : ∀ i j (hi : i < en0.length) (hj : j < en0.length), en0[i].1 = en0[j].1 → i = j := by
            intro i j hi hj hij
            rw [List.pairwise_iff_getElem] at hnd2
            rcases Nat.lt_trichotomy i j with hlt | rfl | hlt
            · exact absurd (by rw [List.getElem_map, List.getElem_map]; exact hij) (hnd2 i j (by simpa using hi) (by simpa using hj) hlt)
            · rfl
            · exact absurd (by rw [List.getElem_map, List.getElem_map]; exact hij.symm) (hnd2 j i (by simpa using hj) (by simpa using hi) hlt)
          obtain ⟨π, hπ⟩ : ∃ π : Nat → Nat, ∀ k, k < g.length → ∃ (hk : k < g.length) (hj : π k < en0.length), (en0[π k]).1 = g[k] := by
            refine choose_fn (R := fun k j => ∃ (hk : k < g.length) (hj : j < en0.length), (en0[j]).1 = g[k]) fun k hk => ?_
            have hm : g[k] ∈ en0.map (·.1) := hperm.mem_iff.2 (List.getElem_mem hk)
            obtain ⟨j, hj, hj2⟩ := List.getElem_of_mem hm
            exact ⟨j, hk, by simpa using hj, by simpa using hj2⟩
          refine .mp kk (litMap g) b es clock (fun k => ((litMap g)[k]?.map fun y => match y.2 with | .s v => v | _ => undef).getD undef) π hb (by rw [litMap_len]; exact hes) (fun y hy => List.all_eq_true.1 hf y hy) ?_ ?_ ?_ ?_
          · intro i j hi hj hij
            exact distB_at hd i j (by simpa using hi) (by simpa using hj) (by simpa using hij)
          · intro i hi
            rw [litMap_len] at hi
            obtain ⟨_, hj, hj2⟩ := hπ i hi
            have hje : π i < es.size := by omega
            obtain ⟨e1, e2⟩ := hent (π i) hje hj
            rw [hj2] at e1 e2
            simp only [Array.getElem?_eq_getElem hje, Option.map_some, e1, e2, litMap, List.getElem_map, List.getElem?_map, List.getElem?_eq_getElem hi, Option.getD_some]
          · intro j hj
            have hj' : j < en0.length := by omega
            have hm : en0[j].1 ∈ g := hperm.mem_iff.1 (List.mem_map.2 ⟨_, List.getElem_mem hj', rfl⟩)
            obtain ⟨i, hi, hi2⟩ := List.getElem_of_mem hm
            obtain ⟨_, hp, hp2⟩ := hπ i hi
            exact ⟨i, by rw [litMap_len]; exact hi, hinj _ _ hp hj' (by rw [hp2, hi2])⟩
          · intro i hi
            have hi' : i < g.length := by rw [litMap_len] at hi; exact hi
            simp only [litMap, List.getElem_map, List.getElem?_map, List.getElem?_eq_getElem hi', Option.map_some, Option.getD_some]
            exact .s _
        · cases hs
      · cases h
    · cases h

open Go.ChangeShapes Go.WideShapes Go.WideElems Go.RowKit
section close
variable {H : Type} {enc : TypeId × Value → H} {P : Program} {W W' : World}
theorem trodAll_stays (hl : laidOutB P = true) (hb : Below W.heap.size W W') : ∀ {ts : List TypeId} {vs : List Value} {ds : List (DataW H)} {ps : List MemPlace}, (ts.all fun t => P.readableRec t && decide (t < P.types.size)) = true →
    (∀ x ∈ ps, x.block < W.heap.size) → DataW.TrodAll enc P W 0 (fun _ => true) true ts vs ds ps → DataW.TrodAll enc P W' 0 (fun b => decide (b < W.heap.size)) true ts vs ds ps
  | [], [], [], _, _, _, h => h
  | t :: ts, v :: vs, d :: ds, ps, ht, hlt, h => by
    obtain ⟨p, q, h1, h2, rfl⟩ := h
    simp only [List.all_cons, Bool.and_eq_true, decide_eq_true_eq] at ht
    exact ⟨p, q, Below.trod hl ht.1.1 ht.1.2 h1 hb (fun x hx => hlt x (by simp [hx])), trodAll_stays hl hb (by simpa [List.all_eq_true] using ht.2) (fun x hx => hlt x (by simp [hx])) h2, rfl⟩
  | [], _ :: _, _, _, _, _, h => h.elim
  | [], [], _ :: _, _, _, _, h => h.elim
  | _ :: _, [], _, _, _, _, h => h.elim
  | _ :: _, _ :: _, [], _, _, _, h => h.elim
/-- The end of a law's row: true came out, and no old block was written. -/
theorem post_true {F F' : FH} {η η' : Et} {σ' : St} {fn : Func} {s : ChangeSpec} {args : Array Value} {ds gs : List (DataW H)} {before : List MemPlace} {tb : TypeId} (hl : laidOutB P = true)
    (ha : (fn.params.toList.all fun t => P.readableRec t && decide (t < P.types.size)) = true) (hv : varsRowed P s.vars = true) (hr : fn.resultTypes = #[tb]) (htb : P.underlying tb = some .bool)
    (hfn : s.fn H (ds ++ gs) = { results := [.lit (.bool true)], args := ds, vars := gs }) (hW : DataW.Whole enc P fn.params.toList s.vars false W args.toList ds gs before) (hs : Step F η St.nil W F' η' σ' W') :
    s.post enc P fn false true false false W args (.bool true) W' := by
  have hb : Below W.heap.size W { W' with tape := W.tape } :=
    ⟨hs.gr.2.1, rfl, hs.gr.2.2, hs.gr.1, fun k hk => hs.fm k hk fun i o ho => by simp [St.nil] at ho⟩
  refine ChangeSpec.post_alike (W'' := { W' with tape := W.tape }) ?_ ⟨rfl, rfl, rfl⟩
  have hW' := hW
  have hlt := hW.lt
  obtain ⟨p, q, hA, hV, rfl, _, _⟩ := hW
  have hAs := trodAll_stays (H := H) (enc := enc) hl hb ha (fun x hx => hlt x (by simp [hx])) hA
  have hVs := Below.trodVars (H := H) (enc := enc) hl hb hv hV
  refine ⟨ds, gs, p ++ q, [], p, q, hW', ?_, ?_, ?_, hb.frame _, fun h => by cases h⟩
  · rw [hfn, hr]
    exact trodAll_mk1 (shut_bool htb _)
  · rw [hfn]; exact hAs
  · rw [hfn]; exact hVs
def isStructD : TypeDesc → Bool
  | .struct _ => true
  | _ => false
theorem isStruct_fs {t : TypeId} (h : (P.underlying t).map isStructD = some true) : ∃ fs, P.underlying t = some (.struct fs) := by
  cases hu : P.underlying t with
  | none => rw [hu] at h; cases h
  | some d =>
    rw [hu] at h
    cases d <;> first | exact ⟨_, rfl⟩ | (simp [isStructD] at h; done)
/-- A struct that came in. -/
theorem ent_agg {α : Type} {t : TypeId} {e : α → List D} {ok : α → Prop} {v : Value} {d : DataW H} {ps : List MemPlace} {base0 : Nat} (ht' : (P.underlying t).map isStructD = some true) (hval : Value.okWide P W .any base0 t v) (hE : Rd enc P W 0 (fun _ => true) true t e ok)
    (h : DataW.Trod enc P W 0 (fun _ => true) true t v d ps) : ∃ y, ok y ∧ ∀ η n, VRel (FW W) η n (.agg ((e y).map .d)) v := by
  obtain ⟨fs, ht⟩ := isStruct_fs ht'
  unfold Value.okWide at hval
  rw [ht] at hval
  obtain ⟨cs, rfl, _⟩ := hval
  obtain ⟨fuel, hf⟩ := h
  obtain ⟨y, h1, h2, h3⟩ := hE fuel _ _ hf
  refine ⟨y, h1, fun η n => .agg (by simpa [Value.cells] using h2.symm) fun j hj => ?_⟩
  have hj' : j < (e y).length := by simpa using hj
  have := (h3 j hj').1
  simp only [List.getElem_map]
  refine .d ?_
  simpa [Value.cells] using this
/-- What a listed variable holds. -/
theorem ent_var {n : String} {g g' : Nat} {cs : Array Value} {x : D} {v : Value} (hg : P.globalNamed n = some g) (hg' : P.globalNamed n = some g') (hv : W.var? P n = some cs) (hc : cs.toList = [v]) (ho : v.oneCell' = true) (hx : DRel (FW W) x v) :
    DRel (FW W) (.ip [x] 0) (.pointer (some ⟨g', 0, none⟩)) ∧ ∃ c E fz, FW W g' = some (.cells c E fz) ∧ c.size = [x].length := by
  obtain rfl : g = g' := Option.some.inj (hg.symm.trans hg')
  unfold World.var? at hv
  rw [hg] at hv
  simp only [Option.bind_some] at hv
  split at hv
  · rename_i c E fz hh
    cases hv
    obtain ⟨l⟩ := cs
    simp only at hc
    subst hc
    refine ⟨.ip [x] 0 g 0 #[v] E fz (fun _ => v) hh ?_ ?_ ?_, #[v], E, fz, hh, rfl⟩
    · intro j hj
      have : j = 0 := by simp at hj; omega
      subst this; rfl
    · intro j _; exact ho
    · intro j hj
      have : j = 0 := by simp at hj; omega
      subst this; exact hx
  · cases hv
end close

section rdg
variable {H : Type} {en : TypeId × Value → H} {P : Program} {w : World} {base : Nat} {spare : Nat → Bool} {held : Bool}
def RdG (en : TypeId × Value → H) (P : Program) (w : World) (base : Nat) (spare : Nat → Bool) (held : Bool) {α : Type} (o : Nat) (prs : List (Nat × TypeId)) (e : α → List D) (ok : α → Prop) : Prop :=
  ∀ fs : List Field, (fs.map fun f => (f.offset, f.type)) = prs → RdF en P w base spare held o fs e ok
theorem rdG_nil {o : Nat} : RdG en P w base spare held o [] (fun _ : Unit => []) (fun _ => True) := by
  intro fs h
  have : fs = [] := by simpa using h
  subst this
  exact rdF_nil
theorem rdG_cons {α β : Type} {o ty : Nat} {prs : List (Nat × TypeId)} {e0 : α → List D} {e1 : β → List D} {ok0 : α → Prop} {ok1 : β → Prop} (s : Nat) (h0 : Rd en P w base spare held ty e0 ok0) (hs : ∀ y, (e0 y).length = s)
    (h1 : RdG en P w base spare held (o + s) prs e1 ok1) : RdG en P w base spare held o ((o, ty) :: prs) (fun p : α × β => e0 p.1 ++ e1 p.2) (fun p => ok0 p.1 ∧ ok1 p.2) := by
  intro fs h
  match fs with
  | [] => simp at h
  | f :: fs =>
    simp only [List.map_cons, List.cons.injEq, Prod.mk.injEq] at h
    obtain ⟨⟨ho, rfl⟩, h⟩ := h
    exact rdF_cons h0 ho hs (h1 fs h)
theorem rd_structG {α : Type} {t n : Nat} {prs : List (Nat × TypeId)} {e : α → List D} {ok : α → Prop} (ht : (P.underlying t).map kindOf = some (.struct prs)) (hn : P.cellsOf t = n) (hl : ∀ y, (e y).length = n) (h : RdG en P w base spare held 0 prs e ok) :
    Rd en P w base spare held t e ok := by
  cases hu : P.underlying t with
  | none => rw [hu] at ht; cases ht
  | some d =>
    rw [hu] at ht
    cases d <;> simp only [Option.map_some, kindOf, Option.some.injEq] at ht <;> first | (cases ht; done) | skip
    rename_i fs
    simp only [KD.struct.injEq] at ht
    exact rd_struct hu hn hl (h _ ht)
end rdg
end Go.Pm
/- The entry: what the reading of a listed array of numbers gives. -/
set_option linter.unusedVariables false
set_option linter.unusedSimpArgs false
namespace Go.Pm
section
variable {H : Type} {en : TypeId × Value → H} {P : Program} {w : World} {base : Nat} {spare : Nat → Bool} {held : Bool}
theorem lit_int {el : TypeId} {k : IntKind} {fuel : Nat} {cs : List Value} {d : DataW H} {p : List MemPlace} (he : P.underlying el = some (.int k)) (h : DataW.trod en P w base spare held fuel el cs = some (d, p)) : ∃ m, cs = [.int k m] ∧ d = .lit (.int k m) := by
  cases fuel with
  | zero => simp [DataW.trod] at h
  | succ fuel =>
    unfold DataW.trod at h
    rw [he] at h
    split at h <;> first | (rename_i hq _; cases hq; done) | (rename_i hq; cases hq; done) | (rename_i hq _ _; cases hq; done) | (simp_all; done) | skip
theorem ent_lits {t el n : Nat} {k : IntKind} {fuel : Nat} {L : List Value} {ns : List Int} {ps : List MemPlace} (ht : P.underlying t = some (.array n el)) (he : P.underlying el = some (.int k)) (hc1 : P.cellsOf el = 1) (hct : P.cellsOf t = n)
    (h : DataW.trod en P w base spare held fuel t L = some (.agg (ns.map fun m => .lit (.int k m)), ps)) : L = ns.map (Value.int k) := by
  cases fuel with
  | zero => simp [DataW.trod] at h
  | succ fuel =>
    unfold DataW.trod at h
    rw [ht] at h
    split at h <;> first | (rename_i hq _; cases hq; done) | (rename_i hq _ _; cases hq; done) | (simp_all; done) | skip
    · rename_i L _ _ n' e' hq
      cases hq
      split at h
      · rename_i hl
        obtain ⟨xs, hxs, h2⟩ := Option.map_eq_some_iff.1 h
        simp only [Prod.mk.injEq, DataW.agg.injEq] at h2
        obtain ⟨h3, _⟩ := h2
        obtain ⟨m1, m2⟩ := mapM_some _ _ _ hxs
        simp only [List.length_range] at m1
        have hn : ns.length = n := by have := congrArg List.length h3; simp only [List.length_map] at this; omega
        rw [hct] at hl
        apply List.ext_getElem
        · simp [hl, hn]
        · intro i hi1 hi2
          have hin : i < n := by omega
          have m3 := m2 i (by simpa using hin) (by omega)
          simp only [List.getElem_range, hc1, Nat.mul_one] at m3
          obtain ⟨m, e1, e2⟩ := lit_int he m3
          have e3 : (L.drop i).take 1 = [L[i]] := by
            rw [List.drop_eq_getElem_cons hi1]; rfl
          rw [e3] at e1
          have e4 : L[i] = .int k m := List.head_eq_of_cons_eq e1
          have hi3 : i < xs.length := by omega
          have e5 : (xs.map (·.1))[i]'(by simpa using hi3) = (ns.map fun m => (.lit (.int k m) : DataW H))[i]'(by rw [List.length_map]; omega) := by simp only [h3]
          simp only [List.getElem_map] at e5
          have e5 := (show xs[i].fst = DataW.lit (Lit.int k m) from e2).symm.trans e5
          simp only [DataW.lit.injEq, Lit.int.injEq, true_and] at e5
          rw [e4, e5]
          simp
      · cases h
end
theorem ent_vars {P : Program} {W : World} {n : String} {g g' : Nat} {cs : Array Value} {k : IntKind} {ns : List Int} (hg : P.globalNamed n = some g) (hg' : P.globalNamed n = some g') (hv : W.var? P n = some cs) (hc : cs.toList = ns.map (Value.int k)) :
    DRel (FW W) (.ip (ns.map fun m => .s (.int k m)) 0) (.pointer (some ⟨g', 0, none⟩)) ∧ ∃ c E fz, FW W g' = some (.cells c E fz) ∧ c.size = (ns.map fun m => D.s (.int k m)).length := by
  obtain rfl : g = g' := Option.some.inj (hg.symm.trans hg')
  unfold World.var? at hv
  rw [hg] at hv
  simp only [Option.bind_some] at hv
  split at hv
  · rename_i c E fz hh
    cases hv
    have hsz : cs.size = ns.length := by rw [← Array.length_toList, hc, List.length_map]
    refine ⟨.ip _ 0 g 0 cs E fz (fun j => (ns.map (Value.int k)).getD j undef) hh ?_ ?_ ?_, cs, E, fz, hh, by rw [hsz, List.length_map]⟩
    · intro j hj
      simp only [List.length_map] at hj
      rw [Nat.zero_add, ← Array.getElem?_toList, hc, List.getElem?_eq_getElem (by simpa using hj)]
      simp [List.getD, hj]
    · intro j hj
      simp only [List.length_map] at hj
      simp [List.getD, hj, Value.oneCell']
    · intro j hj
      simp only [List.length_map] at hj
      simp only [List.getElem_map, List.getD, List.getElem?_map, List.getElem?_eq_getElem hj, Option.map_some, Option.getD_some]
      exact .s _
  · cases hv
end Go.Pm
/- The readings of this seat's types, and its listed variables. -/
set_option linter.unusedVariables false
set_option linter.unusedSimpArgs false
namespace Go.Pm
open Go.Proofs
section
variable {H : Type} {en : TypeId × Value → H} {w : World} {base : Nat} {spare : Nat → Bool} {held : Bool}
theorem rdStr : Rd en Tryz.prog w base spare held 9 eStr dStr := rd_map id (fun _ => rfl) (fun _ h => h) (rd_string (by kernel_rfl))
theorem rdStrs : Rd en Tryz.prog w base spare held 35 (fun l : List ByteArray => [.im (l.map eStr)]) (dL dStr) := rd_map id (fun _ => rfl) (fun _ h => h) (rd_slice (sz := 1) (by kernel_rfl) rdStr (by kernel_rfl) (by decide) (fun _ => rfl))
theorem rdInt : Rd en Tryz.prog w base spare held 3 eNum (fun _ => True) := rd_int (by kernel_rfl)
theorem rdBool : Rd en Tryz.prog w base spare held 4 (fun b : Bool => [.s (.bool b)]) (fun _ => True) := rd_bool (by kernel_rfl)
theorem rdItm : Rd en Tryz.prog w base spare held 161 eItm dItm :=
  rd_map (fun p : Int × Int × ByteArray × Unit => (⟨p.1, p.2.1, p.2.2.1⟩ : Itm)) (fun _ => rfl) (fun _ h => h.2.2.1)
    (rd_structG (n := 3) (by kernel_rfl) (by kernel_rfl) (fun _ => rfl) (rdG_cons 1 rdInt (fun _ => rfl) (rdG_cons 1 rdInt (fun _ => rfl) (rdG_cons 1 rdStr (fun _ => rfl) rdG_nil))))
theorem rdItms : Rd en Tryz.prog w base spare held 122 eItms (dL dItm) := rd_map id (fun _ => rfl) (fun _ h => h) (rd_slice (sz := 3) (by kernel_rfl) rdItm (by kernel_rfl) (by decide) (fun _ => rfl))
theorem rdItmss : Rd en Tryz.prog w base spare held 123 (fun l : List (List Itm) => [.im (l.map eItms)]) (dL (dL dItm)) := rd_map id (fun _ => rfl) (fun _ h => h) (rd_slice (sz := 1) (by kernel_rfl) rdItms (by kernel_rfl) (by decide) (fun _ => rfl))
theorem rdNums : Rd en Tryz.prog w base spare held 37 (fun l : List Int => [.im (l.map eNum)]) dNums := rd_map id (fun _ => rfl) (fun _ h => h.1) (rd_slice (sz := 1) (by kernel_rfl) rdInt (by kernel_rfl) (by decide) (fun _ => rfl))
theorem rdSlt : Rd en Tryz.prog w base spare held 120 eSlt dSlt :=
  rd_map (fun p : ByteArray × Int × Unit => (⟨p.1, p.2.1⟩ : Slt)) (fun _ => rfl) (fun _ h => h.1)
    (rd_structG (n := 2) (by kernel_rfl) (by kernel_rfl) (fun _ => rfl) (rdG_cons 1 rdStr (fun _ => rfl) (rdG_cons 1 rdInt (fun _ => rfl) rdG_nil)))
theorem rdSlts : Rd en Tryz.prog w base spare held 53 (fun l : List Slt => [.im (l.map eSlt)]) (dL dSlt) := rd_map id (fun _ => rfl) (fun _ h => h) (rd_slice (sz := 2) (by kernel_rfl) rdSlt (by kernel_rfl) (by decide) (fun _ => rfl))
theorem rdSm : Rd en Tryz.prog w base spare held 125 eSm dSm :=
  rd_map (fun p : Int × ByteArray × Int × List ByteArray × List Itm × List (List Itm) × Unit => (⟨p.1, p.2.1, p.2.2.1, p.2.2.2.1, p.2.2.2.2.1, p.2.2.2.2.2.1⟩ : Sm)) (fun _ => rfl) (fun _ h => ⟨h.2.1, h.2.2.2.1, h.2.2.2.2.1, h.2.2.2.2.2.1⟩)
    (rd_structG (n := 6) (by kernel_rfl) (by kernel_rfl) (fun _ => rfl) (rdG_cons 1 rdInt (fun _ => rfl) (rdG_cons 1 rdStr (fun _ => rfl) (rdG_cons 1 rdInt (fun _ => rfl) (rdG_cons 1 rdStrs (fun _ => rfl) (rdG_cons 1 rdItms (fun _ => rfl) (rdG_cons 1 rdItmss (fun _ => rfl) rdG_nil)))))))
theorem rdSms : Rd en Tryz.prog w base spare held 54 (fun l : List Sm => [.im (l.map eSm)]) (dL dSm) := rd_map id (fun _ => rfl) (fun _ h => h) (rd_slice (sz := 6) (by kernel_rfl) rdSm (by kernel_rfl) (by decide) (fun _ => rfl))
theorem rdCls : Rd en Tryz.prog w base spare held 56 eCls dCls :=
  rd_map (fun p : ByteArray × List Slt × List Slt × List ByteArray × List Int × List Int × List Sm × Unit => (⟨p.1, p.2.1, p.2.2.1, p.2.2.2.1, p.2.2.2.2.1, p.2.2.2.2.2.1, p.2.2.2.2.2.2.1⟩ : Cls)) (fun _ => rfl) (fun _ h => ⟨h.1, h.2.1, h.2.2.1, h.2.2.2.1, h.2.2.2.2.1, h.2.2.2.2.2.1, h.2.2.2.2.2.2.1⟩)
    (rd_structG (n := 7) (by kernel_rfl) (by kernel_rfl) (fun _ => rfl) (rdG_cons 1 rdStr (fun _ => rfl) (rdG_cons 1 rdSlts (fun _ => rfl) (rdG_cons 1 rdSlts (fun _ => rfl) (rdG_cons 1 rdStrs (fun _ => rfl) (rdG_cons 1 rdNums (fun _ => rfl) (rdG_cons 1 rdNums (fun _ => rfl) (rdG_cons 1 rdSms (fun _ => rfl) rdG_nil))))))))
theorem rdClss : Rd en Tryz.prog w base spare held 22 (fun l : List Cls => [.im (l.map eCls)]) (dL dCls) := rd_map id (fun _ => rfl) (fun _ h => h) (rd_slice (sz := 7) (by kernel_rfl) rdCls (by kernel_rfl) (by decide) (fun _ => rfl))
theorem rdMachine : Rd en Tryz.prog w base spare held 24 (fun l : List Cls => [.im (l.map eCls)]) (dL dCls) :=
  rd_map (fun p : List Cls × Unit => p.1) (fun _ => rfl) (fun _ h => h.1)
    (rd_structG (n := 1) (by kernel_rfl) (by kernel_rfl) (fun _ => rfl) (rdG_cons 1 rdClss (fun _ => rfl) rdG_nil))
end
def kwLaid : List (Lit × DataW Unit) := mapEnts YtaabemmnjhgbgaaGreatDoor.Rows.laid_loop_example_s0043_impl_keywords
theorem kw_lit : litMap kwLaid = wordMap kwS := by kernel_rfl
theorem kw_fit : ((litMap kwLaid).all fun y => keyFit .string y.1) = true := by kernel_rfl
theorem kw_dist : distB ((litMap kwLaid).map (·.1)) = true := by kernel_rfl
def ctLaid : List (Lit × DataW Unit) := mapEnts YtaabemmnjhgbgaaGreatDoor.Rows.laid_loop_example_s0043_impl_codeText
theorem ct_lit : litMap ctLaid = ctMap := by kernel_rfl
theorem ct_fit : ((litMap ctLaid).all fun y => keyFit (.int .i64) y.1) = true := by kernel_rfl
theorem ct_dist : distB ((litMap ctLaid).map (·.1)) = true := by kernel_rfl
def laidL {H : Type} : List (String × DataW H) := [("math/bits.deBruijn32tab", YtaabemmnjhgbgaaGreatDoor.Rows.laid_math_bits_deBruijn32tab), ("math/bits.deBruijn64tab", YtaabemmnjhgbgaaGreatDoor.Rows.laid_math_bits_deBruijn64tab), ("internal/strconv.uint64pow10", YtaabemmnjhgbgaaGreatDoor.Rows.laid_internal_strconv_uint64pow10), ("loop.example/s0043/impl.keywords", YtaabemmnjhgbgaaGreatDoor.Rows.laid_loop_example_s0043_impl_keywords), ("loop.example/s0043/impl.codeText", YtaabemmnjhgbgaaGreatDoor.Rows.laid_loop_example_s0043_impl_codeText)]
theorem pow_laid {H : Type} : (YtaabemmnjhgbgaaGreatDoor.Rows.laid_internal_strconv_uint64pow10 : DataW H) = .agg (pow10L.map fun m => .lit (.int .u64 m)) := by kernel_rfl
theorem type_at {g g0 : Nat} {n : String} {t t0 : TypeId} (h1 : Tryz.prog.globalNamed n = some g) (h2 : (Tryz.prog.globals[g]?).map (·.type) = some t) (hg : Tryz.prog.globalNamed n = some g0) (ht : (Tryz.prog.globals[g0]?).map (·.type) = some t0) : t0 = t := by
  obtain rfl := Option.some.inj (h1.symm.trans hg)
  exact Option.some.inj (ht.symm.trans h2)
theorem glob_ok {W : World} (h : laidMetH Tryz.prog laidL W) : GRel X (FW W) := by
  rw [MakeChecks.laidMetH_plain _ _ _ (by kernel_rfl)] at h
  obtain ⟨ps, ⟨_, _, _, _, _, _, _, _, _, _, hr, _⟩, _, _⟩ := h
  obtain ⟨_, _, _, _, _, _, _, _, _, _, hr, _⟩ := hr
  obtain ⟨g2, t2, cs2, f2, p2, q2, hg2, ht2, hv2, hd2, hr, _⟩ := hr
  obtain ⟨g0, t0, cs0, f0, p0, q0, hg0, ht0, hv0, hd0, hr, _⟩ := hr
  obtain ⟨g1, t1, cs1, f1, p1, q1, hg1, ht1, hv1, hd1, hr, _⟩ := hr
  have n2 : Tryz.prog.globalNamed "internal/strconv.uint64pow10" = some 2 := by kernel_rfl
  have n0 : Tryz.prog.globalNamed "loop.example/s0043/impl.keywords" = some 1 := by kernel_rfl
  have n1 : Tryz.prog.globalNamed "loop.example/s0043/impl.codeText" = some 0 := by kernel_rfl
  obtain rfl := type_at n2 (t := 165) (by kernel_rfl) hg2 ht2
  obtain rfl := type_at n0 (t := 99) (by kernel_rfl) hg0 ht0
  obtain rfl := type_at n1 (t := 113) (by kernel_rfl) hg1 ht1
  have k2 := ent_vars hg2 n2 hv2 (ent_lits (k := .u64) (el := 153) (n := 20) (ns := pow10L) (by kernel_rfl) (by kernel_rfl) (by kernel_rfl) (by kernel_rfl) (by rw [hd2, pow_laid]))
  obtain ⟨v, hc, ho, hx⟩ := ent_map (kk := .string) (k := 9) (e := 4) (by kernel_rfl) (.inl (by kernel_rfl)) (.inl (by kernel_rfl)) kw_fit kw_dist (show DataW.trod _ _ _ _ _ _ _ _ _ = some (.map kwLaid, p0) from hd0)
  rw [kw_lit] at hx
  have k0 := ent_var hg0 n0 hv0 hc ho hx
  obtain ⟨v1, hc1, ho1, hx1⟩ := ent_map (kk := .int .i64) (k := 3) (e := 9) (by kernel_rfl) (.inr (by kernel_rfl)) (.inr (.inl (by kernel_rfl))) ct_fit ct_dist (show DataW.trod _ _ _ _ _ _ _ _ _ = some (.map ctLaid, p1) from hd1)
  rw [ct_lit] at hx1
  have k1 := ent_var hg1 n1 hv1 hc1 ho1 hx1
  intro g cells hg
  simp only [X_G, gl] at hg
  split at hg
  · rename_i hg'
    subst hg'
    cases hg
    exact k0
  split at hg
  · rename_i hg'
    subst hg'
    cases hg
    exact k1
  split at hg
  · rename_i hg'
    subst hg'
    cases hg
    exact k2
  · cases hg
end Go.Pm
