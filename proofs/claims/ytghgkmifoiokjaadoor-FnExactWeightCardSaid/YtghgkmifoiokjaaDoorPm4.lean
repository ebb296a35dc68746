/- The abstract machine, fourth text: operations that make memory: variables, structs, slices, append. -/
import Derived.Test.YtghgkmifoiokjaaDoorPm3
set_option linter.unusedVariables false
set_option linter.unusedSimpArgs false
namespace Go.Pm

def VOk (X : Cfg) (F : FH) (η : Et) (σ : St) (w : World) (r : Result Value) (K : AV → St → Prop) : Prop :=
  ∃ v w' F' η' σ' x, r = .ok v w' ∧ Step F η σ w F' η' σ' w' ∧ GRel X F' ∧ FRel F' w' ∧ SRel F' η' σ' w' ∧ VRel F' η' σ'.next x v ∧ K x σ'

section ops
variable {X : Cfg} {F : FH} {η : Et} {σ : St} {w : World} {K : AV → St → Prop}

theorem VOk.same (hg : GRel X F) (hf : FRel F w) (hs : SRel F η σ w) {r : Result Value} {v : Value} {x : AV} (hr : r = .ok v w) (hv : VRel F η σ.next x v) (hk : K x σ) : VOk X F η σ w r K :=
  ⟨v, w, F, η, σ, x, hr, .refl _ _ _ _, hg, hf, hs, hv, hk⟩

theorem VOk.op {s : Sem Value} (h : VOk X F η σ w (s.run X.P w) K) : OpOk X F η σ w ((do pure (Next.value (← s)) : Sem Next).run X.P w) K := by
  obtain ⟨v, w', F', η', σ', x, hr, h1, h2, h3, h4, h5, h6⟩ := h
  exact ⟨_, v, w', F', η', σ', x, by simp [hr], .inl rfl, h1, h2, h3, h4, h5, h6⟩

def zrow (ti : TI) : List AV := ti.zero.map fun v => .d (.s v)

theorem zrow_rel {ti : TI} (j : Nat) (hj : j < (zrow ti).length) : VRel F η σ.next (zrow ti)[j] (ti.zero.toArray.getD j undef) := by
  have hj' : j < ti.zero.length := by simpa [zrow] using hj
  simp only [zrow, List.getElem_map, Array.getD, List.size_toArray, hj', dif_pos, Array.getInternal_eq_getElem, List.getElem_toArray]
  exact .d (.s _)

theorem zero_one {ti : TI} (h : ti.zero.all (·.oneCell') = true) (j : Nat) (hj : j < ti.zero.length) : (ti.zero.toArray.getD j undef).oneCell' = true := by
  simp only [Array.getD, List.size_toArray, hj, dif_pos, Array.getInternal_eq_getElem, List.getElem_toArray]
  exact List.all_eq_true.1 h _ (List.getElem_mem hj)

def aalloc (X : Cfg) (E : TypeId) (σ : St) (K : AV → St → Prop) : Prop :=
  ∃ ti, X.T E = some ti ∧ K (.ref σ.next 0) (σ.alloc (.var (zrow ti)))

theorem aalloc_ok (hg : GRel X F) (hf : FRel F w) (hs : SRel F η σ w) {E : TypeId} (h : aalloc X E σ K) : VOk X F η σ w ((Instr.alloc E true (.tuple #[])).run X.P w) K := by
  obtain ⟨ti, ht, hk⟩ := h
  obtain ⟨d, i, z, hu, hd, hi, hsz, hby, hz, hzc, hzl, hz1, hzn, hza⟩ := X.ok E ti ht
  obtain ⟨η', s1, s2, s3, hb⟩ := new_var hf hs (zrow ti) z.cells E (by simp [hzc, zrow]) (fun j hj => by rw [hzc]; exact zero_one hz1 j (by simpa [zrow] using hj))
    (fun j hj => by rw [hzc]; exact zrow_rel j hj)
  refine ⟨.pointer (some ⟨w.heap.size, 0, none⟩), _, F, η', _, .ref σ.next 0, ?_, s1, hg, s2, s3, ?_, hk⟩
  · simp [Instr.alloc, zeroValue, typeInfo, hi, hz, newVar, newRow]
  · rw [← hb]; exact .ref (Nat.lt_succ_self _)

def abox (x : AV) (σ : St) (K : AV → St → Prop) : Prop :=
  ∃ cs, x.cells = some cs ∧ cs.all AV.one = true ∧ K (.ref σ.next 0) (σ.alloc (.var cs))

theorem abox_ok (hg : GRel X F) (hf : FRel F w) (hs : SRel F η σ w) {E : TypeId} {x : AV} {v : Value} (hx : VRel F η σ.next x v) (h : abox x σ K) :
    VOk X F η σ w ((Instr.box E v).run X.P w) K := by
  obtain ⟨cs, hc, h1, hk⟩ := h
  obtain ⟨hn, hr⟩ := cells_rel hx hc
  obtain ⟨η', s1, s2, s3, hb⟩ := new_var hf hs cs v.cells E hn (fun j hj => one_rel (hr j hj) (List.all_eq_true.1 h1 _ (List.getElem_mem hj))) hr
  refine ⟨.pointer (some ⟨w.heap.size, 0, none⟩), _, F, η', _, .ref σ.next 0, ?_, s1, hg, s2, s3, ?_, hk⟩
  · simp [Instr.box, newVar, newRow]
  · rw [← hb]; exact .ref (Nat.lt_succ_self _)

/-! ### structs out of parts -/

theorem fold_set (off : Nat) : ∀ (l : List Value) (k : Nat) (cells : Array Value), off + k + l.length ≤ cells.size →
    ((l.zipIdx k).foldl (fun cs (p : Value × Nat) => cs.setIfInBounds (off + p.2) p.1) cells).size = cells.size ∧
    ∀ j, ((l.zipIdx k).foldl (fun cs (p : Value × Nat) => cs.setIfInBounds (off + p.2) p.1) cells).getD j undef = if off + k ≤ j ∧ j < off + k + l.length then l.getD (j - (off + k)) undef else cells.getD j undef
  | [], k, cells, _ => by simp; intro j h; omega
  | v :: l, k, cells, h => by
    simp only [List.zipIdx_cons, List.foldl_cons, List.length_cons] at h ⊢
    have ih := fold_set off l (k + 1) (cells.setIfInBounds (off + k) v) (by simp; omega)
    refine ⟨by rw [ih.1]; simp, fun j => ?_⟩
    rw [ih.2 j]
    by_cases h1 : off + (k + 1) ≤ j ∧ j < off + (k + 1) + l.length
    · rw [if_pos h1, if_pos (by omega), show j - (off + k) = (j - (off + (k + 1))) + 1 by omega]
      simp
    · rw [if_neg h1]
      by_cases h2 : j = off + k
      · subst h2
        rw [if_pos (by omega)]
        simp [Array.getD, show off + k < cells.size by omega]
      · rw [if_neg (by omega)]
        simp only [Array.getD_eq_getD_getElem?, Array.getElem?_setIfInBounds]
        rw [if_neg (by omega)]

def fillA (place : Nat → Option (Nat × Nat)) : List AV → List (Nat × AV) → Option (List AV)
  | cells, [] => some cells
  | cells, (i, x) :: rest =>
    match place i, x.cells with
    | some (off, size), some cs => if cs.length = size ∧ off + size ≤ cells.length ∧ cs.all AV.one = true then fillA place (splice cells off cs) rest else none
    | _, _ => none

theorem fill_rel {place : Nat → Option (Nat × Nat)} {n : Nat} : ∀ (parts : List (Nat × AV)) (vals : List (Nat × Value)) (cells : List AV) (cur : Array Value) (out : List AV),
    vals.length = parts.length → (∀ k (h : k < parts.length) (h' : k < vals.length), (vals[k]).1 = (parts[k]).1 ∧ VRel F η n (parts[k]).2 (vals[k]).2) →
    cur.size = cells.length → (∀ j, j < cells.length → (cur.getD j undef).oneCell' = true) → (∀ j (h : j < cells.length), VRel F η n cells[j] (cur.getD j undef)) → fillA place cells parts = some out →
    ∃ c, Instr.fill place cur vals = some c ∧ c.size = out.length ∧ out.length = cells.length ∧ (∀ j, j < out.length → (c.getD j undef).oneCell' = true) ∧ ∀ j (h : j < out.length), VRel F η n out[j] (c.getD j undef)
  | [], vals, cells, cur, out, hl, _, hn, h1, hr, hf => by
    have : vals = [] := List.eq_nil_of_length_eq_zero (by simpa using hl)
    subst this
    simp only [fillA, Option.some.injEq] at hf
    subst hf
    exact ⟨cur, rfl, hn, rfl, h1, hr⟩
  | (i, x) :: parts, [], cells, cur, out, hl, _, _, _, _, _ => by simp at hl
  | (i, x) :: parts, (i', v) :: vals, cells, cur, out, hl, hp, hn, h1, hr, hf => by
    have h0 := hp 0 (by simp) (by simp)
    simp only [List.getElem_cons_zero] at h0
    obtain ⟨rfl, hxv⟩ := h0
    simp only [fillA] at hf
    split at hf
    · rename_i off size cs hpl hcs
      split at hf
      · rename_i hc
        obtain ⟨hc1, hc2, hc3⟩ := hc
        obtain ⟨hcn, hcr⟩ := cells_rel hxv hcs
        have hsize : v.cells.size = size := by omega
        obtain ⟨hfs, hfg⟩ := fold_set off v.cells.toList 0 cur (by simp; omega)
        have hcs' : off + cs.length ≤ cells.length := by omega
        have hvl : v.cells.toList.length = cs.length := by simp [hcn]
        have hgd : ∀ j, v.cells.toList.getD j undef = v.cells.getD j undef := fun j => by simp [List.getD, Array.getD_eq_getD_getElem?]
        obtain ⟨c, e1, e2, e3, e4, e5⟩ := fill_rel parts vals (splice cells off cs) _ out (by simpa using hl)
          (fun k h h' => by have := hp (k + 1) (by simp; omega) (by simp; omega); simpa using this)
          (by rw [hfs, splice_length hcs']; exact hn)
          (fun j hj => by
            rw [splice_length hcs'] at hj
            rw [hfg j]
            split
            · rename_i hjj
              rw [hgd]
              exact one_rel (hcr (j - (off + 0)) (by omega)) (List.all_eq_true.1 hc3 _ (List.getElem_mem (by omega)))
            · exact h1 j hj)
          (fun j hj => by
            rw [hfg j]
            rcases splice_get hcs' j hj with ⟨g1, g2, e⟩ | ⟨g1, g2, e⟩
            · rw [if_pos (by omega), e, hgd]; exact hcr _ g2
            · rw [if_neg (by omega), e]; exact hr j g1)
          hf
        refine ⟨c, ?_, e2, by rw [e3, splice_length hcs'], e4, e5⟩
        simp only [Instr.fill, hpl]
        rw [if_neg (by simp; omega)]
        rw [← e1]
        congr 1
        rw [← Array.foldl_toList, Array.toList_zipIdx]
      · simp at hf
    · simp at hf

def places (X : Cfg) (fs : List (Nat × TypeId)) (i : Nat) : Option (Nat × Nat) :=
  match fs[i]? with
  | some f => match X.T f.2 with | some ti => some (f.1, ti.size) | none => none
  | none => none

def abuild (X : Cfg) (t : TypeId) (parts : List (Nat × AV)) (σ : St) (K : AV → St → Prop) : Prop :=
  ∃ ti, X.T t = some ti ∧
    match ti.kind with
    | .struct fs => ∃ cs, fillA (places X fs) (zrow ti) parts = some cs ∧ K (.agg cs) σ
    | .array n e => ∃ te, X.T e = some te ∧ ∃ cs, fillA (fun i => some (i * te.size, te.size)) (zrow ti) parts = some cs ∧ K (.agg cs) σ
    | _ => False

theorem kind_struct {d : TypeDesc} {fs : List (Nat × TypeId)} (h : kindOf d = .struct fs) : ∃ a, d = .struct a ∧ fs = a.toList.map fun f => (f.offset, f.type) := by
  cases d <;> simp [kindOf] at h
  exact ⟨_, rfl, h.symm⟩
theorem kind_array {d : TypeDesc} {n e : Nat} (h : kindOf d = .array n e) : d = .array n e := by
  cases d <;> simp [kindOf] at h
  simp [h]
theorem kind_slice {d : TypeDesc} {e : Nat} (h : kindOf d = .slice e) : d = .slice e := by
  cases d <;> simp [kindOf] at h
  simp [h]
theorem kind_map {d : TypeDesc} {k e : Nat} (h : kindOf d = .map k e) : d = .map k e := by
  cases d <;> simp [kindOf] at h
  simp [h]
theorem kind_string {d : TypeDesc} (h : kindOf d = .string) : d = .string := by
  cases d <;> simp [kindOf] at h
  rfl
theorem kind_int {d : TypeDesc} {k : IntKind} (h : kindOf d = .int k) : d = .int k := by
  cases d <;> simp [kindOf] at h
  simp [h]
theorem kind_bool {d : TypeDesc} (h : kindOf d = .bool) : d = .bool := by
  cases d <;> simp [kindOf] at h
  rfl
theorem kind_ptr {d : TypeDesc} {e : Nat} (h : kindOf d = .ptr e) : d = .pointer e := by
  cases d <;> simp [kindOf] at h
  simp [h]

theorem fields_places (fs : List Field) (h : ∀ f ∈ fs, (X.T f.type).isSome = true) :
    ∃ pl, fs.mapM (fun f => (X.P.info? f.type).map fun i => (f.offset, i.size)) = some pl ∧ ∀ i, pl[i]? = places X (fs.map fun f => (f.offset, f.type)) i := by
  induction fs with
  | nil => exact ⟨[], rfl, fun i => by simp [places]⟩
  | cons f fs ih =>
    obtain ⟨pl, e1, e2⟩ := ih fun g hg => h g (by simp [hg])
    obtain ⟨ti, ht⟩ := Option.isSome_iff_exists.1 (h f (by simp))
    obtain ⟨d, i, z, hu, hd, hi, hsz, _⟩ := X.ok f.type ti ht
    refine ⟨(f.offset, ti.size) :: pl, by simp [List.mapM_cons, hi, hsz, e1], fun k => ?_⟩
    cases k with
    | zero => simp [places, ht]
    | succ k => simpa [places] using e2 k

theorem abuild_ok (hg : GRel X F) (hf : FRel F w) (hs : SRel F η σ w) {t : TypeId} {parts : List (Nat × AV)} {vals : Array (Nat × Value)}
    (hn : vals.toList.length = parts.length) (hv : ∀ k (h : k < parts.length) (h' : k < vals.toList.length), (vals.toList[k]).1 = (parts[k]).1 ∧ VRel F η σ.next (parts[k]).2 (vals.toList[k]).2)
    (h : abuild X t parts σ K) : VOk X F η σ w ((Instr.build t vals).run X.P w) K := by
  obtain ⟨ti, ht, hm⟩ := h
  obtain ⟨d, i, z, hu, hd, hi, hsz, hby, hz, hzc, hzl, hz1, hzn, hza⟩ := X.ok t ti ht
  have hz0 : z.cells.size = (zrow ti).length := by simp [hzc, zrow]
  have hz2 : ∀ j, j < (zrow ti).length → (z.cells.getD j undef).oneCell' = true := fun j hj => by rw [hzc]; exact zero_one hz1 j (by simpa [zrow] using hj)
  have hz3 : ∀ j (h : j < (zrow ti).length), VRel F η σ.next (zrow ti)[j] (z.cells.getD j undef) := fun j hj => by rw [hzc]; exact zrow_rel j hj
  split at hm
  · rename_i fs hkd
    rw [hkd] at hd
    obtain ⟨a, rfl, rfl⟩ := kind_struct hd
    obtain ⟨cs, hcs, hk⟩ := hm
    obtain ⟨pl, e1, e2⟩ := fields_places (X := X) a.toList fun f hf => X.cl t ti _ ht hkd (f.offset, f.type) (List.mem_map.2 ⟨f, hf, rfl⟩)
    obtain ⟨c, f1, f2, f3, f4, f5⟩ := fill_rel parts vals.toList (zrow ti) z.cells cs hn hv hz0 hz2 hz3 hcs
    have hb : X.P.built t vals.toList = some c := by
      simp only [Program.built, hi, hu, hz, e1]
      rw [← f1]
      congr 1
      funext k
      simpa using e2 k
    exact VOk.same hg hf hs (run_build w t vals c hb) (.agg f2 f5) hk
  · rename_i n e hkd
    rw [hkd] at hd
    have := kind_array hd
    subst this
    obtain ⟨te, hte, cs, hcs, hk⟩ := hm
    obtain ⟨d', i', z', hu', hd', hi', hsz', _⟩ := X.ok e te hte
    obtain ⟨c, f1, f2, f3, f4, f5⟩ := fill_rel parts vals.toList (zrow ti) z.cells cs hn hv hz0 hz2 hz3 hcs
    have hb : X.P.built t vals.toList = some c := by
      simp only [Program.built, hi, hu, hz, hi', hsz', f1]
    exact VOk.same hg hf hs (run_build w t vals c hb) (.agg f2 f5) hk
  · exact hm.elim

/-! ### slices -/

def fillRows (sz : Nat) : List (List AV) → List (Nat × AV) → Option (List (List AV))
  | rows, [] => some rows
  | rows, (i, x) :: rest =>
    match x.cells with
    | some cs => if cs.length = sz ∧ i < rows.length ∧ cs.all AV.one = true then fillRows sz (rows.set i cs) rest else none
    | none => none

theorem row_lt {k n sz j : Nat} (hk : k < n) (hj : j < sz) : k * sz + j < n * sz := by
  have : (k + 1) * sz ≤ n * sz := Nat.mul_le_mul_right _ hk
  rw [Nat.add_mul, Nat.one_mul] at this
  omega

theorem row_ne {a k sz j m : Nat} (hj : j < sz) (hm : m < sz) (hak : a ≠ k) : a * sz + j ≠ k * sz + m := by
  intro h
  rcases Nat.lt_or_gt_of_ne hak with hlt | hgt
  · have : (a + 1) * sz ≤ k * sz := Nat.mul_le_mul_right _ hlt
    rw [Nat.add_mul, Nat.one_mul] at this
    omega
  · have : (k + 1) * sz ≤ a * sz := Nat.mul_le_mul_right _ hgt
    rw [Nat.add_mul, Nat.one_mul] at this
    omega

/-- Rows laid out one behind the other. -/
structure Laid (F : FH) (η : Et) (n sz : Nat) (rows : List (List AV)) (c : Array Value) : Prop where
  size : rows.length * sz ≤ c.size
  len : ∀ r ∈ rows, r.length = sz
  one : ∀ j, j < rows.length * sz → (c.getD j undef).oneCell' = true
  rel : ∀ k (hk : k < rows.length) j (hj : j < (rows[k]).length), VRel F η n ((rows[k])[j]) (c.getD (k * sz + j) undef)

theorem fillRows_rel {n sz : Nat} : ∀ (parts : List (Nat × AV)) (vals : List (Nat × Value)) (rows : List (List AV)) (cur : Array Value) (out : List (List AV)),
    vals.length = parts.length → (∀ k (h : k < parts.length) (h' : k < vals.length), (vals[k]).1 = (parts[k]).1 ∧ VRel F η n (parts[k]).2 (vals[k]).2) →
    cur.size = rows.length * sz → Laid F η n sz rows cur → fillRows sz rows parts = some out →
    ∃ c, Instr.fill (fun i => some (i * sz, sz)) cur vals = some c ∧ c.size = cur.size ∧ out.length = rows.length ∧ Laid F η n sz out c
  | [], vals, rows, cur, out, hl, _, hn, hL, hf => by
    have : vals = [] := List.eq_nil_of_length_eq_zero (by simpa using hl)
    subst this
    simp only [fillRows, Option.some.injEq] at hf
    subst hf
    exact ⟨cur, rfl, rfl, rfl, hL⟩
  | (i, x) :: parts, [], rows, cur, out, hl, _, _, _, _ => by simp at hl
  | (i, x) :: parts, (i', v) :: vals, rows, cur, out, hl, hp, hn, hL, hf => by
    have h0 := hp 0 (by simp) (by simp)
    simp only [List.getElem_cons_zero] at h0
    obtain ⟨rfl, hxv⟩ := h0
    simp only [fillRows] at hf
    split at hf
    · rename_i cs hcs
      split at hf
      · rename_i hc
        obtain ⟨hc1, hc2, hc3⟩ := hc
        obtain ⟨hcn, hcr⟩ := cells_rel hxv hcs
        have hfit : i' * sz + sz ≤ cur.size := by
          have : (i' + 1) * sz ≤ rows.length * sz := Nat.mul_le_mul_right _ hc2
          rw [Nat.add_mul, Nat.one_mul] at this
          omega
        obtain ⟨hfs, hfg⟩ := fold_set (i' * sz) v.cells.toList 0 cur (by simp; omega)
        have hgd : ∀ j, v.cells.toList.getD j undef = v.cells.getD j undef := fun j => by simp [List.getD, Array.getD_eq_getD_getElem?]
        have hvl : v.cells.toList.length = sz := by simp [hcn]; omega
        have hL' : Laid F η n sz (rows.set i' cs) (((v.cells.toList.zipIdx 0).foldl (fun cs (p : Value × Nat) => cs.setIfInBounds (i' * sz + p.2) p.1) cur)) := by
          refine ⟨by rw [hfs, hn]; simp, fun r hr => ?_, fun j hj => ?_, fun k hk j hj => ?_⟩
          · rcases List.mem_or_eq_of_mem_set hr with hm | rfl
            · exact hL.len r hm
            · exact hc1
          · rw [List.length_set] at hj
            rw [hfg j]
            split
            · rename_i hjj
              rw [hgd]
              exact one_rel (hcr (j - (i' * sz + 0)) (by omega)) (List.all_eq_true.1 hc3 _ (List.getElem_mem (by omega)))
            · exact hL.one j hj
          · have hk' : k < rows.length := by simpa using hk
            rw [hfg]
            by_cases hki : k = i'
            · subst hki
              have e1 : (rows.set k cs)[k]'hk = cs := by simp
              have hj' : j < cs.length := by rw [e1] at hj; exact hj
              have e2 : ((rows.set k cs)[k]'hk)[j]'hj = cs[j]'hj' := by simp only [e1]
              rw [e2, if_pos (by omega), hgd, show k * sz + j - (k * sz + 0) = j by omega]
              exact hcr j hj'
            · have e1 : (rows.set i' cs)[k]'hk = rows[k] := by rw [List.getElem_set]; simp [Ne.symm hki]
              have hj' : j < (rows[k]).length := by rw [e1] at hj; exact hj
              have e2 : ((rows.set i' cs)[k]'hk)[j]'hj = (rows[k])[j]'hj' := by simp only [e1]
              have hjs : j < sz := by rw [← hL.len _ (List.getElem_mem hk')]; exact hj'
              rw [e2, if_neg ?_]
              · exact hL.rel k hk' j hj'
              · intro hh
                have := row_ne hjs (show k * sz + j - i' * sz < sz by omega) hki
                omega
        obtain ⟨c, e1, e2, e3, e4⟩ := fillRows_rel parts vals (rows.set i' cs) _ out (by simpa using hl)
          (fun k h h' => by have := hp (k + 1) (by simp; omega) (by simp; omega); simpa using this)
          (by rw [hfs, hn]; simp) hL' hf
        refine ⟨c, ?_, by rw [e2, hfs], by rw [e3]; simp, e4⟩
        simp only [Instr.fill]
        rw [if_neg (by simp; omega), ← e1]
        congr 1
        rw [← Array.foldl_toList, Array.toList_zipIdx]
      · simp at hf
    · simp at hf

theorem laid_zero {ti : TI} (hz1 : ti.zero.all (·.oneCell') = true) (hzl : ti.zero.length = ti.size) (hp : 0 < ti.size) (n len : Nat) {c : Array Value}
    (hc : ∀ j, j < len * ti.size → c.getD j undef = ti.zero.toArray.getD (j % ti.size) undef) (hs : len * ti.size ≤ c.size) :
    Laid F η n ti.size (List.replicate len (zrow ti)) c := by
  refine ⟨by simpa using hs, fun r hr => ?_, fun j hj => ?_, fun k hk j hj => ?_⟩
  · rw [(List.mem_replicate.1 hr).2]; simp [zrow, hzl]
  · simp only [List.length_replicate] at hj
    rw [hc j hj]
    exact zero_one hz1 _ (by rw [hzl]; exact Nat.mod_lt _ hp)
  · simp only [List.length_replicate] at hk
    simp only [List.getElem_replicate] at hj ⊢
    have hjs : j < ti.size := by simpa [zrow, hzl] using hj
    rw [hc _ (row_lt hk hjs), Nat.add_comm, Nat.add_mul_mod_self_right, Nat.mod_eq_of_lt hjs]
    exact zrow_rel (σ := ⟨fun _ => none, n⟩) j hj

/-- A new block of rows. -/
theorem new_laid (hf : FRel F w) (hs : SRel F η σ w) (E sz : Nat) (rows : List (List AV)) (c : Array Value) (cap : Nat)
    (hp : 0 < sz) (hcap : cap ≤ maxLen) (hc : c.size = cap * sz) (hle : rows.length ≤ cap) (hL : Laid F η σ.next sz rows c) :
    ∃ η', Step F η σ w F η' (σ.alloc (.row σ.next E sz rows)) (w.alloc (.cells c E)) ∧ FRel F (w.alloc (.cells c E)) ∧ SRel F η' (σ.alloc (.row σ.next E sz rows)) (w.alloc (.cells c E)) ∧
      η'.hdr σ.next = ⟨some w.heap.size, cap, sz⟩ :=
  new_row hf hs E sz rows c cap hp hcap hc hle hL.len hL.one hL.rel

def abuildSlice (X : Cfg) (t : TypeId) (len : Nat) (parts : List (Nat × AV)) (σ : St) (K : AV → St → Prop) : Prop :=
  ∃ ti, X.T t = some ti ∧ ∃ e te, ti.kind = .slice e ∧ X.T e = some te ∧ 0 < te.size ∧ len * te.size ≤ 16777216 ∧
    ∃ rows, fillRows te.size (List.replicate len (zrow te)) parts = some rows ∧ K (.sl σ.next σ.next 0 len) (σ.alloc (.row σ.next e te.size rows))

theorem zero_at {z : Array Value} (hp : 0 < z.size) (j m : Nat) (hj : j < m) : ((Array.range m).map (z[· % z.size]!)).getD j undef = z.getD (j % z.size) undef := by
  have h1 : j % z.size < z.size := Nat.mod_lt _ hp
  simp [Array.getD, hj, h1]

theorem abuildSlice_ok (hg : GRel X F) (hf : FRel F w) (hs : SRel F η σ w) {t : TypeId} {len : Nat} {parts : List (Nat × AV)} {vals : Array (Nat × Value)}
    (hn : vals.toList.length = parts.length) (hv : ∀ k (h : k < parts.length) (h' : k < vals.toList.length), (vals.toList[k]).1 = (parts[k]).1 ∧ VRel F η σ.next (parts[k]).2 (vals.toList[k]).2)
    (h : abuildSlice X t len parts σ K) : VOk X F η σ w ((Instr.buildSlice t len vals).run X.P w) K := by
  obtain ⟨ti, ht, e, te, hkd, hte, hp, hlim, rows, hrows, hk⟩ := h
  obtain ⟨d, i, z, hu, hd, hi, hsz, _⟩ := X.ok t ti ht
  obtain ⟨d', i', z', hu', hd', hi', hsz', hby', hz', hzc', hzl', hz1', _⟩ := X.ok e te hte
  rw [hkd] at hd
  have hsl := kind_slice hd
  subst hsl
  have hzs : z'.cells.size = te.size := by simp [hzc', hzl']
  let zero : Array Value := if len * te.size = 0 then #[] else z'.cells
  let c0 := (Array.range (len * te.size)).map (zero[· % zero.size]!)
  have hc0s : c0.size = len * te.size := by simp [c0]
  have hL0 : Laid F η σ.next te.size (List.replicate len (zrow te)) c0 := by
    refine laid_zero hz1' hzl' hp σ.next len (fun j hj => ?_) (Nat.le_of_eq hc0s.symm)
    have hne : len * te.size ≠ 0 := by omega
    have hzz : zero = z'.cells := if_neg hne
    simp only [c0, hzz]
    rw [zero_at (by omega) j _ hj, hzs, hzc']
  obtain ⟨c, e1, e2, e3, e4⟩ := fillRows_rel parts vals.toList _ c0 rows hn hv (by rw [hc0s]; simp) hL0 hrows
  have hrl : rows.length = len := by rw [e3]; simp
  have hmx : len ≤ maxLen := by
    have : len ≤ len * te.size := Nat.le_mul_of_pos_right _ hp
    unfold maxLen; omega
  obtain ⟨η', s1, s2, s3, hh⟩ := new_laid hf hs e te.size rows c len hp hmx (by rw [e2, hc0s]) (by omega) e4
  refine ⟨.slice (some ⟨w.heap.size, 0, none⟩) len len, _, F, η', _, .sl σ.next σ.next 0 len, ?_, s1, hg, s2, s3, ?_, hk⟩
  · simp only [Instr.buildSlice, Sem.run_bind, run_underlying hu, Result.andThen_ok, run_sizeOf hi', hsz']
    rw [if_neg (by omega)]
    by_cases h0 : len * te.size = 0
    · have e1' : Instr.fill (fun i => some (i * te.size, te.size)) ((Array.range (len * te.size)).map ((#[] : Array Value)[· % (#[] : Array Value).size]!)) vals.toList = some c := by
        have := e1
        simp only [c0, zero, if_pos h0] at this
        exact this
      rw [if_pos h0]
      simp only [Sem.run_bind, Sem.run_pure, Result.andThen_ok, e1']
      rfl
    · have e1' : Instr.fill (fun i => some (i * te.size, te.size)) ((Array.range (len * te.size)).map (z'.cells[· % z'.cells.size]!)) vals.toList = some c := by
        have := e1
        simp only [c0, zero, if_neg h0] at this
        exact this
      have hzv : (zeroValue e).run X.P w = .ok z' w := by simp [zeroValue, typeInfo, hi', hz']
      rw [if_neg h0]
      simp only [Sem.run_bind, Sem.run_pure, Result.andThen_ok, hzv, e1']
      rfl
  · have := @VRel.sl F η' (σ.next + 1) σ.next σ.next 0 len w.heap.size len te.size 0 (by omega) (by omega) hh (Nat.zero_le _) (Nat.le_refl _) (by simp)
    exact this

def amakeSlice (X : Cfg) (t : TypeId) (l c : AV) (σ : St) (K : AV → St → Prop) : Prop :=
  ∃ n m : Int, (∃ k1, l = .d (.s (.int k1 n))) ∧ (∃ k2, c = .d (.s (.int k2 m))) ∧ 0 ≤ n ∧ n ≤ m ∧ m ≤ 4294967296 ∧
    ∃ ti, X.T t = some ti ∧ ∃ e te, ti.kind = .slice e ∧ X.T e = some te ∧ 0 < te.size ∧ te.bytes ≤ 32768 ∧
      K (.sl σ.next σ.next 0 n.toNat) (σ.alloc (.row σ.next e te.size (List.replicate n.toNat (zrow te))))

theorem amakeSlice_ok (hg : GRel X F) (hf : FRel F w) (hs : SRel F η σ w) {t : TypeId} {l c : AV} {vl vc : Value} (hl : VRel F η σ.next l vl) (hc : VRel F η σ.next c vc)
    (h : amakeSlice X t l c σ K) : VOk X F η σ w ((Instr.makeSlice t vl vc).run X.P w) K := by
  obtain ⟨n, m, ⟨k1, rfl⟩, ⟨k2, rfl⟩, hn, hnm, hm, ti, ht, e, te, hkd, hte, hp, hby, hk⟩ := h
  have e1 := hl.s_inv
  have e2 := hc.s_inv
  subst e1
  subst e2
  obtain ⟨d, i, z, hu, hd, hi, hsz, _⟩ := X.ok t ti ht
  obtain ⟨d', i', z', hu', hd', hi', hsz', hby', hz', hzc', hzl', hz1', _⟩ := X.ok e te hte
  rw [hkd] at hd
  have hsl := kind_slice hd
  subst hsl
  have hzs : z'.cells.size = te.size := by simp [hzc', hzl']
  have hb2 : (i'.bytes : Int) * m ≤ 281474976710656 := by
    rw [hby']
    have h1 : (te.bytes : Int) * m ≤ 32768 * 4294967296 := Int.mul_le_mul (by omega) hm (by omega) (by omega)
    omega
  have hr := run_make (P := X.P) w t e i' z' hu hi' hz' k1 k2 n m hn hnm hb2 (by omega)
  rw [hsz'] at hr
  have hL : Laid F η σ.next te.size (List.replicate n.toNat (zrow te)) (madeCells z'.cells (m.toNat * te.size)) := by
    have hle : n.toNat * te.size ≤ m.toNat * te.size := Nat.mul_le_mul_right _ (by omega)
    refine laid_zero hz1' hzl' hp σ.next n.toNat (fun j hj => ?_) (by rw [size_madeCells]; exact hle)
    rw [madeCells, zero_at (by omega) j _ (by omega), hzs, hzc']
  obtain ⟨η', s1, s2, s3, hh⟩ := new_laid hf hs e te.size (List.replicate n.toNat (zrow te)) _ m.toNat hp (by unfold maxLen; omega) (size_madeCells _ _) (by simp; omega) hL
  refine ⟨_, _, F, η', _, .sl σ.next σ.next 0 n.toNat, hr, s1, hg, s2, s3, ?_, hk⟩
  have := @VRel.sl F η' (σ.next + 1) σ.next σ.next 0 n.toNat w.heap.size m.toNat te.size 0 (by omega) (by omega) hh (Nat.zero_le _) (by omega) (by simp)
  exact this
end ops
end Go.Pm
