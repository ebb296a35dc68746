/- The abstract machine, third text: loads, stores, new variables and rows. -/
import Derived.Test.YtghgkmifoiokjaaDoorPm2
set_option linter.unusedVariables false
set_option linter.unusedSimpArgs false
namespace Go.Pm

def AV.cells : AV → Option (List AV)
  | .agg cs => some cs
  | .d (.s (.agg vs)) => some (vs.toList.map fun v => .d (.s v))
  | .tup _ => none
  | .any => none
  | x => some [x]

def AV.one : AV → Bool
  | .d (.s v) => v.oneCell'
  | .agg _ => false
  | .tup _ => false
  | .any => false
  | _ => true

theorem cells_rel {F : FH} {η : Et} {n : Nat} {x : AV} {v : Value} {cs : List AV} (h : VRel F η n x v) (hc : x.cells = some cs) :
    v.cells.size = cs.length ∧ ∀ j (hj : j < cs.length), VRel F η n cs[j] (v.cells.getD j undef) := by
  have one : ∀ {y : AV} {u : Value}, VRel F η n y u → (∀ vs, u ≠ .agg vs) → cs = [y] → u.cells.size = cs.length ∧ ∀ j (hj : j < cs.length), VRel F η n cs[j] (u.cells.getD j undef) := by
    intro y u hy hu he
    subst he
    have hcu : u.cells = #[u] := by cases u <;> first | rfl | exact absurd rfl (hu _)
    rw [hcu]
    refine ⟨rfl, fun j hj => ?_⟩
    have : j = 0 := by simp at hj; exact hj
    subst this
    exact hy
  cases h with
  | @d x v hd =>
    cases hd with
    | s v =>
      cases v with
      | agg vs =>
        simp only [AV.cells, Option.some.injEq] at hc
        subst hc
        refine ⟨by simp [Value.cells], fun j hj => ?_⟩
        simp only [List.length_map, Array.length_toList] at hj
        simp only [List.getElem_map, Array.getElem_toList, Value.cells]
        rw [Array.getD, dif_pos hj]
        exact .d (.s _)
      | _ => exact one (.d (.s _)) (by intro vs h; cases h) (by simpa [AV.cells] using hc.symm)
    | im0 a cap => exact one (.d (.im0 a cap)) (by intro vs h; cases h) (by simpa [AV.cells] using hc.symm)
    | im rows b o cap sz c E fz f hb hcap hsz hc' ho hr => exact one (.d (.im rows b o cap sz c E fz f hb hcap hsz hc' ho hr)) (by intro vs h; cases h) (by simpa [AV.cells] using hc.symm)
    | ip cells off b o c E fz f hb hc' ho hr => exact one (.d (.ip cells off b o c E fz f hb hc' ho hr)) (by intro vs h; cases h) (by simpa [AV.cells] using hc.symm)
    | mp0 kk => exact one (.d (.mp0 kk)) (by intro vs h; cases h) (by simpa [AV.cells] using hc.symm)
    | mp kk es r ents clock f π hb hn hff hdd hk hsu hr => exact one (.d (.mp kk es r ents clock f π hb hn hff hdd hk hsu hr)) (by intro vs h; cases h) (by simpa [AV.cells] using hc.symm)
  | agg hn h =>
    simp only [AV.cells, Option.some.injEq] at hc
    subst hc
    exact ⟨hn, h⟩
  | tup hn h => simp [AV.cells] at hc
  | ref h1 => exact one (.ref h1) (by intro vs h; cases h) (by simpa [AV.cells] using hc.symm)
  | sl h1 h2 h3 h4 h5 h6 => exact one (.sl h1 h2 h3 h4 h5 h6) (by intro vs h; cases h) (by simpa [AV.cells] using hc.symm)
  | sl0 h1 h2 h3 => exact one (.sl0 h1 h2 h3) (by intro vs h; cases h) (by simpa [AV.cells] using hc.symm)
  | ep h1 h2 h3 => exact one (.ep h1 h2 h3) (by intro vs h; cases h) (by simpa [AV.cells] using hc.symm)
  | mp h1 => exact one (.mp h1) (by intro vs h; cases h) (by simpa [AV.cells] using hc.symm)
  | it h1 => exact one (.it h1) (by intro vs h; cases h) (by simpa [AV.cells] using hc.symm)
  | fn h1 h2 => exact one (.fn h1 h2) (by intro vs h; cases h) (by simpa [AV.cells] using hc.symm)
  | ifc h1 => exact one (.ifc h1) (by intro vs h; cases h) (by simpa [AV.cells] using hc.symm)
  | any v => simp [AV.cells] at hc

theorem one_rel {F : FH} {η : Et} {n : Nat} {x : AV} {v : Value} (h : VRel F η n x v) (hc : x.one = true) : v.oneCell' = true := by
  cases h with
  | d hd =>
    cases hd with
    | s v => exact hc
    | _ => rfl
  | agg hn h => simp [AV.one] at hc
  | tup hn h => simp [AV.one] at hc
  | any v => simp [AV.one] at hc
  | _ => rfl

theorem run_isAgg {P : Program} {t : TypeId} {d : TypeDesc} (h : P.underlying t = some d) (w : World) : (isAgg t).run P w = .ok (isAggK (kindOf d)) w := by
  unfold isAgg
  rw [Sem.run_bind, run_underlying h w]
  cases d <;> rfl

theorem run_sizeOf {P : Program} {t : TypeId} {i : TypeInfo} (h : P.info? t = some i) (w : World) : (sizeOf t).run P w = .ok i.size w := by
  simp [sizeOf, typeInfo, h]

def piece (ag : Bool) (cells : List AV) (off size : Nat) : Option AV :=
  if ag then (if off + size ≤ cells.length then some (.agg ((cells.drop off).take size)) else none) else cells[off]?

theorem getD_append_range (f : Nat → Value) (n j : Nat) (hj : j < n) : (((List.range n).map f).toArray).getD j undef = f j := by
  simp [Array.getD, hj]

/-- A load from cells that are known. -/
theorem run_loadVar_at {P : Program} {F : FH} {η : Et} {n : Nat} {w : World} {t : TypeId} {d : TypeDesc} {i : TypeInfo} (hu : P.underlying t = some d) (hi : P.info? t = some i)
    {cells : List AV} {b o off : Nat} {f : Nat → Value} (hc : ∀ j, j < cells.length → w.cell? ⟨b, o + j, none⟩ = some (f j))
    (hr : ∀ j (h : j < cells.length), VRel F η n cells[j] (f j)) {r : AV} (hp : piece (isAggK (kindOf d)) cells off i.size = some r) :
    ∃ v, (loadVar t ⟨b, o + off, none⟩).run P w = .ok v w ∧ VRel F η n r v := by
  unfold piece at hp
  cases hd : isAggK (kindOf d) with
  | true =>
    simp only [hd, if_true] at hp
    split at hp
    · rename_i hle
      simp only [Option.some.injEq] at hp
      subst hp
      have hl : (loadCells ⟨b, o + off, none⟩ i.size).run P w = .ok ((List.range i.size).map fun j => f (off + j)).toArray w :=
        run_loadCells w ⟨b, o + off, none⟩ i.size (fun j => f (off + j)) (fun j hj => by rw [Addr.add_lit, Nat.add_assoc]; exact hc (off + j) (by omega))
      refine ⟨.agg ((List.range i.size).map fun j => f (off + j)).toArray, by simp only [loadVar, Sem.run_bind, run_isAgg hu, Result.andThen_ok, hd, if_true, run_sizeOf hi, hl, Sem.run_pure], ?_⟩
      refine .agg (by simp; omega) fun j hj => ?_
      simp only [List.length_take, List.length_drop] at hj
      rw [getD_append_range _ _ _ (by omega)]
      have := hr (off + j) (by omega)
      simpa using this
    · simp at hp
  | false =>
    simp only [hd, Bool.false_eq_true, if_false] at hp
    obtain ⟨hlt, rfl⟩ := List.getElem?_eq_some_iff.1 hp
    refine ⟨f off, ?_, hr off hlt⟩
    simp only [loadVar, Sem.run_bind, run_isAgg hu, Result.andThen_ok, hd, Bool.false_eq_true, if_false, run_load, hc off hlt]

/-- The cells behind a pointer, and where in them it points. -/
def behind (σ : St) : AV → Option (List AV × Nat)
  | .ref i off => match σ.obj i with | some (.var cells) => some (cells, off) | _ => none
  | .ep i v k off => match σ.obj i with | some (.row v' _ _ rows) => if v = v' then (rows[k]?).map fun r => (r, off) else none | _ => none
  | .d (.ip cells off) => some (cells.map .d, off)
  | _ => none

theorem behind_rel {F : FH} {η : Et} {σ : St} {w : World} (hf : FRel F w) (hs : SRel F η σ w) {p : AV} {vp : Value} (hp : VRel F η σ.next p vp) {cells : List AV} {off : Nat}
    (hb : behind σ p = some (cells, off)) :
    ∃ (b o : Nat) (f : Nat → Value), vp = .pointer (some ⟨b, o + off, none⟩) ∧ (∀ j, j < cells.length → w.cell? ⟨b, o + j, none⟩ = some (f j)) ∧ ∀ j (h : j < cells.length), VRel F η σ.next cells[j] (f j) := by
  cases hp with
  | @ref i off' h1 =>
    simp only [behind] at hb
    split at hb
    · rename_i cs ho
      simp only [Option.some.injEq, Prod.mk.injEq] at hb
      obtain ⟨rfl, rfl⟩ := hb
      cases hs.ob i _ ho with
      | var c E hbk hn ho1 h =>
        refine ⟨η.blk i, 0, fun j => c.getD j undef, by simp, fun j hj => ?_, h⟩
        rw [cell_of_row w _ _ _ _ _ hbk]
        simp [Array.getD, hn, hj]
    · simp at hb
  | @ep i v k off' b cap sz h1 h2 hh =>
    simp only [behind] at hb
    split at hb
    · rename_i v' E sz' rows ho
      split at hb
      · rename_i hv
        subst hv
        cases hk : rows[k]? with
        | none => simp [hk] at hb
        | some r =>
          simp only [hk, Option.map_some, Option.some.injEq, Prod.mk.injEq] at hb
          obtain ⟨rfl, rfl⟩ := hb
          obtain ⟨hklt, rfl⟩ := List.getElem?_eq_some_iff.1 hk
          cases hs.ob i _ ho with
          | row xs hv hs' hpos hown hsz ho1 h =>
            obtain ⟨cur, hg, hle, hmx, hcs, htk⟩ := own_row_blk hown (b := b) (by rw [hh])
            have hsz' : sz' = sz := by rw [← hs', hh]
            subst hsz'
            have hlen : (rows[k]).length = sz' := hsz _ (List.getElem_mem hklt)
            have hin : ∀ j, j < sz' → k * sz' + j < rows.length * sz' := by
              intro j hj
              have : (k + 1) * sz' ≤ rows.length * sz' := Nat.mul_le_mul_right _ hklt
              rw [Nat.add_mul, Nat.one_mul] at this
              omega
            have hmul : rows.length * sz' ≤ cur.size := by rw [hcs]; exact Nat.mul_le_mul_right _ (by rw [hh] at hle ⊢; exact hle)
            refine ⟨b, k * sz', fun j => xs.getD (k * sz' + j) undef, rfl, fun j hj => ?_, fun j hj => h k hklt j hj⟩
            rw [cell_of_row w _ _ _ _ _ hg]
            have hj' : k * sz' + j < rows.length * sz' := hin j (by omega)
            have : xs[k * sz' + j]? = cur[k * sz' + j]? := by rw [← htk]; simp [List.getElem?_take, hj']
            simp only [List.getD, this]
            rw [Array.getElem?_eq_getElem (by omega)]
            rfl
      · simp at hb
    · simp at hb
  | d hd =>
    cases hd with
    | ip cs off' b o c E fz f hbk hc ho hr =>
      simp only [behind, Option.some.injEq, Prod.mk.injEq] at hb
      obtain ⟨rfl, rfl⟩ := hb
      refine ⟨b, o, f, rfl, fun j hj => ?_, fun j hj => ?_⟩
      · rw [cell_of_row w _ _ _ _ _ (hf _ _ hbk)]; exact hc j (by simpa using hj)
      · simp only [List.getElem_map]; exact .d (hr j (by simpa using hj))
    | _ => simp [behind] at hb
  | _ => simp [behind] at hb

/-- How an operation went. -/
def OpOk (X : Cfg) (F : FH) (η : Et) (σ : St) (w : World) (r : Result Next) (K : AV → St → Prop) : Prop :=
  ∃ nx v w' F' η' σ' x, r = .ok nx w' ∧ (nx = .value v ∨ (nx = .skip ∧ v = undef)) ∧ Step F η σ w F' η' σ' w' ∧ GRel X F' ∧ FRel F' w' ∧ SRel F' η' σ' w' ∧ VRel F' η' σ'.next x v ∧ K x σ'

theorem OpOk.same {X : Cfg} {F : FH} {η : Et} {σ : St} {w : World} {r : Result Next} {K : AV → St → Prop} (hg : GRel X F) (hf : FRel F w) (hs : SRel F η σ w) {v : Value} {x : AV}
    (hr : r = .ok (.value v) w) (hv : VRel F η σ.next x v) (hk : K x σ) : OpOk X F η σ w r K :=
  ⟨_, v, w, F, η, σ, x, hr, .inl rfl, .refl _ _ _ _, hg, hf, hs, hv, hk⟩

section ops
variable {X : Cfg} {F : FH} {η : Et} {σ : St} {w : World} {K : AV → St → Prop}

def aload (X : Cfg) (t : TypeId) (p : AV) (σ : St) (K : AV → St → Prop) : Prop :=
  ∃ ti, X.T t = some ti ∧ ∃ co, behind σ p = some co ∧ ∃ r, piece (isAggK ti.kind) co.1 co.2 ti.size = some r ∧ K r σ

theorem aload_ok (hg : GRel X F) (hf : FRel F w) (hs : SRel F η σ w) {t : TypeId} {p : AV} {vp : Value} (hp : VRel F η σ.next p vp) (h : aload X t p σ K) :
    ∃ v r, (Instr.loadAt t vp).run X.P w = .ok v w ∧ VRel F η σ.next r v ∧ K r σ := by
  obtain ⟨ti, ht, ⟨cells, off⟩, hb, r, hr, hk⟩ := h
  obtain ⟨d, i, z, hu, hd, hi, hsz, _⟩ := X.ok t ti ht
  obtain ⟨b, o, f, rfl, hc, hrel⟩ := behind_rel hf hs hp hb
  rw [← hsz, ← hd] at hr
  obtain ⟨v, hv, hvr⟩ := run_loadVar_at hu hi hc hrel hr
  exact ⟨v, r, by simpa [Instr.loadAt, Instr.sureAddr] using hv, hvr, hk⟩

def splice (cells : List AV) (off : Nat) (cs : List AV) : List AV := cells.take off ++ cs ++ cells.drop (off + cs.length)

def astore (X : Cfg) (t : TypeId) (p x : AV) (σ : St) (K : AV → St → Prop) : Prop :=
  ∃ ti, X.T t = some ti ∧ ∃ cs, x.cells = some cs ∧ cs.length = ti.size ∧ cs.all AV.one = true ∧
    match p with
    | .ref i off => ∃ cells, σ.obj i = some (.var cells) ∧ off + ti.size ≤ cells.length ∧ K (.d (.s undef)) (σ.set i (.var (splice cells off cs)))
    | .ep i v k off => ∃ E sz rows, σ.obj i = some (.row v E sz rows) ∧ ∃ r, rows[k]? = some r ∧ off + ti.size ≤ r.length ∧
        K (.d (.s undef)) (σ.set i (.row v E sz (rows.set k (splice r off cs))))
    | _ => False

theorem splice_length {cells cs : List AV} {off : Nat} (h : off + cs.length ≤ cells.length) : (splice cells off cs).length = cells.length := by
  simp only [splice, List.length_append, List.length_take, List.length_drop]; omega

theorem splice_get {cells cs : List AV} {off : Nat} (h : off + cs.length ≤ cells.length) (j : Nat) (hj : j < (splice cells off cs).length) :
    (∃ (h1 : off ≤ j) (h2 : j - off < cs.length), (splice cells off cs)[j] = cs[j - off]) ∨
    (∃ (h1 : j < cells.length), (j < off ∨ off + cs.length ≤ j) ∧ (splice cells off cs)[j] = cells[j]) := by
  have hl := splice_length h
  unfold splice at hj ⊢
  by_cases h1 : j < off
  · right
    refine ⟨by omega, .inl h1, ?_⟩
    rw [List.getElem_append_left (by simp; omega), List.getElem_append_left (by simp; omega)]
    simp
  · by_cases h2 : j < off + cs.length
    · left
      refine ⟨by omega, by omega, ?_⟩
      rw [List.getElem_append_left (by simp; omega), List.getElem_append_right (by simp; omega)]
      simp [Nat.min_eq_left (show off ≤ cells.length by omega)]
    · right
      have hjc : j < cells.length := by unfold splice at hl; omega
      refine ⟨hjc, .inr (by omega), ?_⟩
      rw [List.getElem_append_right (by simp; omega)]
      simp only [List.getElem_drop, List.length_append, List.length_take]
      congr 1
      omega

/-- The cells of a block after some were stored. -/
theorem stored_getD (cur : Array Value) (o : Nat) (vs : List Value) (h : o + vs.length ≤ cur.size) (j : Nat) :
    ((cur.toList.take o ++ vs ++ cur.toList.drop (o + vs.length)).toArray).getD j undef = if o ≤ j ∧ j < o + vs.length then vs.getD (j - o) undef else cur.getD j undef := by
  have e : ∀ (l : List Value), l.toArray.getD j undef = (l[j]?).getD undef := by intro l; simp [Array.getD_eq_getD_getElem?]
  have e2 : cur.getD j undef = (cur.toList[j]?).getD undef := by simp [Array.getD_eq_getD_getElem?]
  rw [e, e2]
  by_cases h1 : j < o
  · rw [if_neg (by omega), List.append_assoc, List.getElem?_append_left (by simp; omega)]
    simp [List.getElem?_take, h1]
  · by_cases h2 : j < o + vs.length
    · rw [if_pos (by omega), List.append_assoc, List.getElem?_append_right (by simp; omega), List.getElem?_append_left (by simp; omega)]
      simp [List.getD, Nat.min_eq_left (show o ≤ cur.size by omega)]
    · rw [if_neg (by omega), List.getElem?_append_right (by simp; omega)]
      simp only [List.getElem?_drop, List.length_append, List.length_take, Array.length_toList]
      congr 2
      omega

theorem getD_one {vs : List Value} (h : ∀ v ∈ vs, v.oneCell' = true) {j : Nat} (hj : j < vs.length) : (vs.getD j undef).oneCell' = true := by
  simp only [List.getD, List.getElem?_eq_getElem hj, Option.getD_some]
  exact h _ (List.getElem_mem hj)

theorem astore_ok (hg : GRel X F) (hf : FRel F w) (hs : SRel F η σ w) {t : TypeId} {p x : AV} {vp vx : Value} (hp : VRel F η σ.next p vp) (hx : VRel F η σ.next x vx)
    (h : astore X t p x σ K) : ∃ w' σ', (Instr.storeAt t vp vx).run X.P w = .ok () w' ∧ Step F η σ w F η σ' w' ∧ FRel F w' ∧ SRel F η σ' w' ∧ K (.d (.s undef)) σ' := by
  obtain ⟨ti, ht, cs, hcs, hlen, hone, hm⟩ := h
  obtain ⟨d0, i0, z, hu, _, hi, hsz, _⟩ := X.ok t ti ht
  obtain ⟨hcn, hcr⟩ := cells_rel hx hcs
  have hsize : vx.cells.size = ti.size := hcn.trans hlen
  have hvl : vx.cells.toList.length = cs.length := by simp [hcn]
  have hv1 : ∀ v ∈ vx.cells.toList, v.oneCell' = true := by
    intro v hv
    obtain ⟨j, hj, rfl⟩ := List.mem_iff_getElem.1 hv
    have hj' : j < cs.length := by omega
    have := one_rel (hcr j hj') (List.all_eq_true.1 hone _ (List.getElem_mem hj'))
    simpa [Array.getD, show j < vx.cells.size by omega] using this
  have hgetD : ∀ j, vx.cells.toList.getD j undef = vx.cells.getD j undef := fun j => by simp [List.getD, Array.getD_eq_getD_getElem?]
  have hrun : ∀ b o cur E, w.heap[b]? = some (.cells cur E (0, 0)) → o + cs.length ≤ cur.size →
      (storeVar t ⟨b, o, none⟩ vx).run X.P w = .ok () (w.setRow b (cur.toList.take o ++ vx.cells.toList ++ cur.toList.drop (o + vx.cells.toList.length)).toArray) := by
    intro b o cur E hb hle
    have := run_storeCells_at X.P b o E vx.cells.toList 0 cur w hb (by simpa [hcn] using hle) hv1
    simp only [Nat.add_zero] at this
    simp [storeVar, run_sizeOf hi, hsz, hsize, this]
  cases p with
  | ref i off =>
    obtain ⟨cells, ho, hle, hk⟩ := hm
    cases hp with
    | ref h1 =>
      have hor := hs.ob i _ ho
      cases hor with
      | var c E hbk hn ho1 hr =>
        have hfit : off + cs.length ≤ c.size := by omega
        have hfit' : off + vx.cells.toList.length ≤ c.size := by omega
        obtain ⟨s1, s2, s3⟩ := set_row_block (o := .var (splice cells off cs)) hf hs ho rfl rfl _
          (.var (c.toList.take off ++ vx.cells.toList ++ c.toList.drop (off + vx.cells.toList.length)).toArray E (setRow_heap w _ _ _ _ _ hbk)
            (by rw [splice_length (by omega)]; simp [hcn]; omega)
            (fun j hj => by
              rw [stored_getD c off _ hfit']
              split
              · rename_i hc; exact getD_one hv1 (by omega)
              · exact ho1 j (by rw [splice_length (by omega)] at hj; exact hj))
            (fun j hj => by
              rw [stored_getD c off _ hfit']
              rcases splice_get (show off + cs.length ≤ cells.length by omega) j hj with ⟨h1, h2, e⟩ | ⟨h1, h2, e⟩
              · rw [if_pos (by omega), e, hgetD]; exact hcr _ h2
              · rw [if_neg (by omega), e]; exact hr j h1))
        exact ⟨_, _, by simp only [Instr.storeAt, Instr.sureAddr, Sem.run_bind, Sem.run_pure, Result.andThen_ok]; exact hrun _ off c E hbk hfit, s1, s2, s3, hk⟩
  | ep i v k off =>
    obtain ⟨E, sz, rows, ho, r, hrk, hle, hk⟩ := hm
    cases hp with
    | @ep _ _ _ _ b cap sz' h1 h2 hh =>
      have hor := hs.ob i _ ho
      cases hor with
      | row xs hv hs' hpos hown hsz1 ho1 hrr =>
        obtain ⟨cur, hgb, hle2, hmx, hcs2, htk⟩ := own_row_blk hown (b := b) (by rw [hh])
        have hszz : sz' = sz := by rw [← hs', hh]
        subst hszz
        obtain ⟨hklt, rfl⟩ := List.getElem?_eq_some_iff.1 hrk
        have hrl : (rows[k]).length = sz' := hsz1 _ (List.getElem_mem hklt)
        have hmul : rows.length * sz' ≤ cur.size := by rw [hcs2]; exact Nat.mul_le_mul_right _ hle2
        have hk1 : (k + 1) * sz' ≤ rows.length * sz' := Nat.mul_le_mul_right _ hklt
        rw [Nat.add_mul, Nat.one_mul] at hk1
        have hfit : k * sz' + off + cs.length ≤ cur.size := by omega
        have hfit' : k * sz' + off + vx.cells.toList.length ≤ cur.size := by omega
        have hxl : xs.length = rows.length * sz' := hown.1
        have hxg : ∀ j, j < rows.length * sz' → xs.getD j undef = cur.getD j undef := by
          intro j hj
          rw [← htk]
          simp [List.getD, Array.getD_eq_getD_getElem?, List.getElem?_take, hj]
        let new := (cur.toList.take (k * sz' + off) ++ vx.cells.toList ++ cur.toList.drop (k * sz' + off + vx.cells.toList.length)).toArray
        have hnewsz : new.size = cur.size := by simp [new]; omega
        have hnewg : ∀ j, j < rows.length * sz' → (new.toList.take (rows.length * sz')).getD j undef = new.getD j undef := by
          intro j hj
          simp [List.getD, Array.getD_eq_getD_getElem?, List.getElem?_take, hj]
        have hdis : ∀ a j, j < sz' → a ≠ k → ¬ (k * sz' + off ≤ a * sz' + j ∧ a * sz' + j < k * sz' + off + vx.cells.toList.length) := by
          intro a j hj hak hh2
          rcases Nat.lt_or_gt_of_ne hak with hlt | hgt
          · have : (a + 1) * sz' ≤ k * sz' := Nat.mul_le_mul_right _ hlt
            rw [Nat.add_mul, Nat.one_mul] at this
            omega
          · have : (k + 1) * sz' ≤ a * sz' := Nat.mul_le_mul_right _ hgt
            rw [Nat.add_mul, Nat.one_mul] at this
            omega
        obtain ⟨s1, s2, s3⟩ := set_row_block (b := b) (o := .row v E sz' (rows.set k (splice rows[k] off cs))) hf hs ho (by simp [own, hh]) (by simp [own, hh]) new
          (.row (new.toList.take (rows.length * sz')) hv hs' hpos
            (by
              simp only [List.length_set]
              refine ⟨by simp only [List.length_take, Array.length_toList]; omega, .inr ⟨b, cap, new, ?_, Nat.zero_le _, setRow_heap w _ _ _ _ _ hgb, ?_, ?_, ?_, rfl⟩⟩
              · simp [Hd.val, hh]
              · simpa [hh] using hle2
              · simpa [hh] using hmx
              · rw [hnewsz]; simpa [hh] using hcs2)
            (fun r hr => by
              rcases List.mem_or_eq_of_mem_set hr with hm | rfl
              · exact hsz1 r hm
              · rw [splice_length (by omega)]; exact hrl)
            (fun u hu => by
              obtain ⟨j, hj, rfl⟩ := List.mem_iff_getElem.1 hu
              have hj2 : j < rows.length * sz' := by simp only [List.length_take] at hj; omega
              have := hnewg j hj2
              rw [stored_getD cur _ _ hfit'] at this
              simp only [List.getD, List.getElem?_eq_getElem hj, Option.getD_some] at this
              rw [this]
              split
              · exact getD_one hv1 (by omega)
              · rw [← hxg j hj2]; exact getD_one ho1 (by omega))
            (fun a ha j hj => by
              have ha' : a < rows.length := by simpa using ha
              have hjl : j < sz' := by
                rw [List.getElem_set] at hj
                split at hj
                · rw [splice_length (by omega)] at hj; omega
                · rw [hsz1 _ (List.getElem_mem ha')] at hj; exact hj
              have hin : a * sz' + j < rows.length * sz' := by
                have : (a + 1) * sz' ≤ rows.length * sz' := Nat.mul_le_mul_right _ ha'
                rw [Nat.add_mul, Nat.one_mul] at this
                omega
              rw [hnewg _ hin, stored_getD cur _ _ hfit']
              by_cases hak : a = k
              · subst hak
                have e1 : (rows.set a (splice rows[a] off cs))[a]'ha = splice rows[a] off cs := by simp
                have hj' : j < (splice rows[a] off cs).length := by rw [splice_length (by omega)]; omega
                have e2 : ((rows.set a (splice rows[a] off cs))[a]'ha)[j]'hj = (splice rows[a] off cs)[j]'hj' := by simp only [e1]
                rw [e2]
                rcases splice_get (show off + cs.length ≤ (rows[a]).length by omega) j hj' with ⟨h1, h2, e⟩ | ⟨h1, h2, e⟩
                · rw [if_pos (by omega), e, hgetD, show a * sz' + j - (a * sz' + off) = j - off by omega]; exact hcr _ h2
                · rw [if_neg (by omega), e, ← hxg _ hin]; exact hrr a ha' j h1
              · rw [if_neg (hdis a j hjl hak), ← hxg _ hin]
                have e1 : (rows.set k (splice rows[k] off cs))[a]'ha = rows[a] := by rw [List.getElem_set]; simp [Ne.symm hak]
                have e2 : ((rows.set k (splice rows[k] off cs))[a]'ha)[j]'hj = (rows[a])[j]'(by rw [hsz1 _ (List.getElem_mem ha')]; exact hjl) := by simp only [e1]
                rw [e2]
                exact hrr a ha' j _))
        exact ⟨_, _, by simp only [Instr.storeAt, Instr.sureAddr, Sem.run_bind, Sem.run_pure, Result.andThen_ok]; exact hrun _ _ cur E hgb hfit, s1, s2, s3, hk⟩
  | _ => exact hm.elim
end ops
end Go.Pm
