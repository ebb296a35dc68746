/- The abstract machine, seventh text: maps, the rest of the operations, and a region of them. -/
import Derived.Test.YtghgkmifoiokjaaDoorPm6
set_option linter.unusedVariables false
set_option linter.unusedSimpArgs false
namespace Go.Pm

def afind {α : Type} : List (Value × α) → Value → Option α
  | [], _ => none
  | (k', v) :: es, k => if keyEq k k' then some v else afind es k

def aput {α : Type} : List (Value × α) → Value → α → List (Value × α)
  | [], k, v => [(k, v)]
  | (k', u) :: es, k, v => if keyEq k k' then (k', v) :: es else (k', u) :: aput es k v

section ops
variable {X : Cfg} {F : FH} {η : Et} {σ : St} {w : World} {K : AV → St → Prop}

theorem bytes_beq (a b : ByteArray) : (a == b) = decide (a = b) := by
  have h : (a == b) = (a.data == b.data) := rfl
  rw [h, Bool.eq_iff_iff]
  simp only [beq_iff_eq, decide_eq_true_eq]
  constructor
  · intro h; cases a; cases b; simp_all
  · intro h; rw [h]
theorem sameNow_fit {d : TypeDesc} {kk : KD} (hd : kindOf d = kk) {a b : Value} (ha : keyFit kk a = true) (hb : keyFit kk b = true) : Instr.sameNow d a b = some (keyEq a b) := by
  cases kk <;> cases a <;> simp [keyFit] at ha <;> cases b <;> simp [keyFit] at hb
  · have := kind_bool hd; subst this; simp [Instr.sameNow, keyEq]
  · have := kind_int hd
    subst this; subst ha; subst hb
    simp only [Instr.sameNow, if_true, keyEq, beq_dec]
  · have := kind_string hd; subst this; simp only [Instr.sameNow, keyEq, bytes_beq]

theorem findNow_fit {d : TypeDesc} {kk : KD} (hd : kindOf d = kk) {k : Value} (hk : keyFit kk k = true) : ∀ (l : List MapEntry) (i : Nat), (∀ e ∈ l, keyFit kk e.key = true) →
    Instr.findNow d k l i = some (match l.findIdx? (fun e => keyEq k e.key) with | some j => some (i + j, (l.getD j default).val) | none => none)
  | [], i, _ => by simp [Instr.findNow]
  | e :: l, i, h => by
    have h1 := sameNow_fit hd hk (h e (by simp))
    have ih := findNow_fit hd hk l (i + 1) fun e he => h e (by simp [he])
    unfold Instr.findNow
    rw [h1]
    cases hq : keyEq k e.key with
    | true => simp [List.findIdx?_cons, hq]
    | false =>
      simp only [ih]
      simp only [List.findIdx?_cons, hq]
      cases l.findIdx? (fun e => keyEq k e.key) with
      | none => simp
      | some j => simp; omega

theorem run_findKey {P : Program} {t : TypeId} {d : TypeDesc} {kk : KD} (hu : P.underlying t = some d) (hd : kindOf d = kk) {k : Value} (hk : keyFit kk k = true) (l : List MapEntry)
    (h : ∀ e ∈ l, keyFit kk e.key = true) (w : World) :
    (Instr.findKey t k l).run P w = .ok (match l.findIdx? (fun e => keyEq k e.key) with | some j => some (j, (l.getD j default).val) | none => none) w := by
  simp only [Instr.findKey, Sem.run_bind, run_underlying hu, Result.andThen_ok, findNow_fit hd hk l 0 h]
  simp

theorem run_checkKey {P : Program} {t : TypeId} {d : TypeDesc} {kk : KD} (hu : P.underlying t = some d) (hd : kindOf d = kk) {k : Value} (hk : keyFit kk k = true) (e : Bool) (w : World) :
    (Instr.checkKey e 10000 t k).run P w = .ok () w := by
  unfold Instr.checkKey
  simp only [Sem.run_bind, run_underlying hu, Result.andThen_ok]
  cases kk <;> cases k <;> simp [keyFit] at hk
  · have := kind_bool hd; subst this; rfl
  · have := kind_int hd; subst this; rfl
  · have := kind_string hd; subst this; rfl

theorem afind_idx {α : Type} (k : Value) : ∀ (es : List (Value × α)) (l : List MapEntry), es.length = l.length → (∀ j (h : j < es.length) (h' : j < l.length), (l[j]).key = (es[j]).1) →
    (match l.findIdx? (fun e => keyEq k e.key) with | some j => ∃ (h : j < es.length), afind es k = some (es[j]).2 | none => afind es k = none)
  | [], [], _, _ => by simp [afind]
  | (k', v) :: es, e :: l, hl, h => by
    have h0 : e.key = k' := h 0 (by simp) (by simp)
    have ih := afind_idx k es l (by simpa using hl) fun j h1 h2 => by have := h (j + 1) (by simp; omega) (by simp; omega); simpa using this
    simp only [List.findIdx?_cons, h0, afind]
    cases hq : keyEq k k' with
    | true => simp
    | false =>
      cases hi : l.findIdx? (fun e => keyEq k e.key) with
      | none => simp only [hi] at ih; simp [ih]
      | some j =>
        simp only [hi] at ih
        obtain ⟨hj, e1⟩ := ih
        simp only [Option.map_some, Bool.false_eq_true, if_false]
        exact ⟨by simp; omega, by simp [e1]⟩
  | [], e :: l, hl, _ => by simp at hl
  | x :: es, [], hl, _ => by simp at hl

def entriesOf (σ : St) : AV → Option (List (Value × AV))
  | .d (.mp _ es) => some (es.map fun e => (e.1, .d e.2))
  | .d (.s (.map none)) => some []
  | .mp i => match σ.obj i with | some (.map _ es) => some es | _ => none
  | _ => none

def kindOfMap (σ : St) (k0 : KD) : AV → KD
  | .d (.mp k _) => k
  | .mp i => match σ.obj i with | some (.map k _) => k | _ => k0
  | _ => k0

def azero (ti : TI) : AV := if isAggK ti.kind then .agg (zrow ti) else .d (.s (ti.zero.headD undef))

def alookup (X : Cfg) (t : TypeId) (m k : AV) (ok : Bool) (σ : St) (K : AV → St → Prop) : Prop :=
  ∃ ti, X.T t = some ti ∧ ∃ kt et, ti.kind = .map kt et ∧ ∃ tk te, X.T kt = some tk ∧ X.T et = some te ∧ ∃ kv, k = .d (.s kv) ∧ keyFit tk.kind kv = true ∧ kindOfMap σ tk.kind m = tk.kind ∧
    ∃ es, entriesOf σ m = some es ∧ K (if ok then .tup [(afind es kv).getD (azero te), .d (.s (.bool (afind es kv).isSome))] else (afind es kv).getD (azero te)) σ

theorem azero_rel {ti : TI} {t : TypeId} (ht : X.T t = some ti) : ∃ z i, X.P.info? t = some i ∧ i.zero = some z ∧ VRel F η σ.next (azero ti) z := by
  obtain ⟨d, i, z, hu, hd, hi, hsz, hby, hz, hzc, hzl, hz1, hzn, hza⟩ := X.ok t ti ht
  refine ⟨z, i, hi, hz, ?_⟩
  unfold azero
  cases hag : isAggK ti.kind with
  | true =>
    rw [hza hag]
    exact .agg (by simp [zrow]) fun j hj => zrow_rel j hj
  | false =>
    rw [hzn hag]
    exact .d (.s _)

theorem tup2_rel {F : FH} {η : Et} {n : Nat} {x y : AV} {u v : Value} (h1 : VRel F η n x u) (h2 : VRel F η n y v) : VRel F η n (.tup [x, y]) (.tuple #[u, v]) :=
  .tup rfl fun j hj => by
    match j, hj with
    | 0, _ => exact h1
    | 1, _ => exact h2

theorem alookup_ok (hg : GRel X F) (hf : FRel F w) (hs : SRel F η σ w) {t : TypeId} {m k : AV} {vm vk : Value} {ok : Bool} (hm : VRel F η σ.next m vm) (hkr : VRel F η σ.next k vk)
    (h : alookup X t m k ok σ K) : VOk X F η σ w ((Instr.lookup t vm vk ok).run X.P w) K := by
  obtain ⟨ti, ht, kt, et, hkd, tk, te, htk, hte, kv, rfl, hfit, hkm, es, hes, hK⟩ := h
  have := hkr.s_inv
  subst this
  obtain ⟨d, i, z, hu, hd, hi, _⟩ := X.ok t ti ht
  rw [hkd] at hd
  have := kind_map hd
  subst this
  obtain ⟨d2, i2, z2, hu2, hd2, hi2, _⟩ := X.ok kt tk htk
  obtain ⟨z, iz, hiz, hzz, hzr⟩ := azero_rel (F := F) (η := η) (σ := σ) hte
  have hzv : (zeroValue et).run X.P w = .ok z w := by simp [zeroValue, typeInfo, hiz, hzz]
  -- the entries as they stand
  have key : ∃ l : List MapEntry, ((vm = .map none ∧ l = []) ∨ ∃ r clock, vm = .map (some r) ∧ w.heap[r]? = some (.map l.toArray clock)) ∧ (∀ e ∈ l, keyFit tk.kind e.key = true) ∧
      (match l.findIdx? (fun e => keyEq vk e.key) with
        | some j => ∃ x, afind es vk = some x ∧ VRel F η σ.next x (l.getD j default).val
        | none => afind es vk = none) := by
    cases hm with
    | d hd =>
      cases hd with
      | s v =>
        cases vm <;> simp [entriesOf] at hes
        rename_i r
        cases r <;> simp at hes
        subst hes
        exact ⟨[], .inl ⟨rfl, rfl⟩, by simp, by simp [afind]⟩
      | mp0 kk =>
        simp [entriesOf] at hes
        subst hes
        exact ⟨[], .inl ⟨rfl, rfl⟩, by simp, by simp [afind]⟩
      | mp kk es' r ents clock f π hb hn hff hdd hk hsu hr =>
        simp only [entriesOf, Option.some.injEq] at hes
        subst hes
        simp only [kindOfMap] at hkm
        subst hkm
        have hbw := hf _ _ hb
        have hkey : ∀ j (h : j < es'.length), ∃ h' : π j < ents.toList.length, (ents.toList[π j]).key = (es'[j]).1 ∧ (ents.toList[π j]).val = f j := by
          intro j h
          have := hk j h
          cases hg : ents[π j]? with
          | none => simp [hg] at this
          | some e =>
            obtain ⟨h1, h2⟩ := Array.getElem?_eq_some_iff.1 hg
            simp only [hg, Option.map_some, Option.some.injEq, Prod.mk.injEq] at this
            exact ⟨by simpa using h1, by simpa [h2] using this⟩
        have hfits : ∀ e ∈ ents.toList, keyFit tk.kind e.key = true := by
          intro e he
          obtain ⟨j, hj, rfl⟩ := List.mem_iff_getElem.1 he
          obtain ⟨k, hk1, rfl⟩ := hsu j (by simpa using hj)
          obtain ⟨_, h2, _⟩ := hkey k hk1
          rw [h2]
          exact hff _ (List.getElem_mem hk1)
        refine ⟨ents.toList, .inr ⟨r, clock, rfl, by simpa using hbw⟩, hfits, ?_⟩
        have hfa : ∀ (es2 : List (Value × D)), (∀ e ∈ es2, keyEq vk e.1 = false) → afind (es2.map fun e => (e.1, AV.d e.2)) vk = none := by
          intro es2 h
          induction es2 with
          | nil => rfl
          | cons e es2 ih => simp only [List.map_cons, afind, h e (by simp)]; exact ih fun e' he' => h e' (by simp [he'])
        have hfs : ∀ (es2 : List (Value × D)) (k : Nat) (hk : k < es2.length), keyEq vk es2[k].1 = true → (∀ k' (h : k' < es2.length), keyEq vk es2[k'].1 = true → k' = k) →
            afind (es2.map fun e => (e.1, AV.d e.2)) vk = some (.d es2[k].2) := by
          intro es2
          induction es2 with
          | nil => intro k hk; simp at hk
          | cons e es2 ih =>
            intro k hk he hu
            cases k with
            | zero => simp only [List.map_cons, afind]; rw [if_pos (by simpa using he)]; simp
            | succ k =>
              have h0 : keyEq vk e.1 = false := by
                cases hq : keyEq vk e.1 with
                | false => rfl
                | true => have := hu 0 (by simp) (by simpa using hq); omega
              simp only [List.map_cons, afind, h0]
              exact ih k (by simpa using hk) (by simpa using he) fun k' hk' he' => by have := hu (k' + 1) (by simp; omega) (by simpa using he'); omega
        have htr : ∀ a b, keyFit tk.kind a = true → keyFit tk.kind b = true → keyEq vk a = true → keyEq vk b = true → keyEq a b = true := by
          intro a b h1 h2 h3 h4
          generalize tk.kind = kk at hfit h1 h2
          cases kk <;> cases vk <;> simp [keyFit] at hfit <;> cases a <;> simp [keyFit] at h1 <;> cases b <;> simp [keyFit] at h2 <;> simp [keyEq] at h3 h4 ⊢ <;> simp_all
        cases hq : ents.toList.findIdx? (fun e => keyEq vk e.key) with
        | none =>
          have hno := List.findIdx?_eq_none_iff.1 hq
          refine hfa es' fun e he => ?_
          obtain ⟨k, hk1, rfl⟩ := List.mem_iff_getElem.1 he
          obtain ⟨h1, h2, _⟩ := hkey k hk1
          rw [← h2]
          exact hno _ (List.getElem_mem h1)
        | some j =>
          obtain ⟨hj, h1, _⟩ := List.findIdx?_eq_some_iff_getElem.1 hq
          obtain ⟨k, hk1, rfl⟩ := hsu j (by simpa using hj)
          obtain ⟨h2, h3, h4⟩ := hkey k hk1
          rw [h3] at h1
          refine ⟨_, hfs es' k hk1 h1 fun k' hk' he' => hdd k' k hk' hk1 (htr _ _ (hff _ (List.getElem_mem hk')) (hff _ (List.getElem_mem hk1)) he' h1), ?_⟩
          simp only [List.getD, List.getElem?_eq_getElem h2, Option.getD_some, h4]
          exact .d (hr k hk1)
      | _ => simp [entriesOf] at hes
    | @mp i1 g1 =>
      simp only [entriesOf] at hes
      split at hes
      · rename_i kk es' ho
        simp only [Option.some.injEq] at hes
        subst hes
        simp only [kindOfMap, ho] at hkm
        subst hkm
        cases hs.ob i1 _ ho with
        | map ents clock hb hn hff hk hdd hb1 hb2 hr =>
          have hkey : ∀ j (h : j < es'.length) (h' : j < ents.toList.length), (ents.toList[j]).key = (es'[j]).1 := by
            intro j h h'
            have := hk j h
            rw [Array.getElem?_eq_getElem (by omega)] at this
            simp only [Option.map_some, Option.some.injEq] at this
            simpa using this
          refine ⟨ents.toList, .inr ⟨_, clock, rfl, by simpa using hb⟩, fun e he => ?_, ?_⟩
          · obtain ⟨j, hj, rfl⟩ := List.mem_iff_getElem.1 he
            have hj' : j < es'.length := by simpa [hn] using hj
            rw [hkey j hj' hj]
            exact hff _ (List.getElem_mem hj')
          · have hidx := afind_idx vk es' ents.toList (by simp [hn]) hkey
            cases hq : ents.toList.findIdx? (fun e => keyEq vk e.key) with
            | none => simp only [hq] at hidx; exact hidx
            | some j =>
              simp only [hq] at hidx
              obtain ⟨h, e1⟩ := hidx
              refine ⟨_, e1, ?_⟩
              have h3 : j < ents.toList.length := by simp [hn]; exact h
              have h4 : j < ents.size := by omega
              have := hr j h
              simp only [Array.getElem?_eq_getElem h4, Option.map_some, Option.getD_some] at this
              simpa [List.getD, List.getElem?_eq_getElem h3, h4] using this
      · simp at hes
    | _ => simp [entriesOf] at hes
  obtain ⟨l, hl, hfits, hidx⟩ := key
  have hfk := run_findKey hu2 hd2 hfit l hfits w
  have hck := fun b => run_checkKey hu2 hd2 hfit b w
  have hrun : (Instr.lookup t vm vk ok).run X.P w = .ok (if ok then .tuple #[((match l.findIdx? (fun e => keyEq vk e.key) with | some j => (l.getD j default).val | none => z) : Value), .bool (l.findIdx? (fun e => keyEq vk e.key)).isSome]
      else (match l.findIdx? (fun e => keyEq vk e.key) with | some j => (l.getD j default).val | none => z)) w := by
    rcases hl with ⟨rfl, rfl⟩ | ⟨r, clock, rfl, hb⟩
    · unfold Instr.lookup
      simp only [Sem.run_bind, run_underlying hu, Result.andThen_ok, Sem.run_pure, hck]
      rw [hfk]
      simp [hzv]
    · have hgo : (getObj r).run X.P w = .ok (.map l.toArray clock) w := by simp [getObj, Sem.run, hb]
      unfold Instr.lookup
      simp only [Sem.run_bind, run_underlying hu, Result.andThen_ok, Sem.run_pure, hck, hgo]
      rw [hfk]
      cases l.findIdx? (fun e => keyEq vk e.key) with
      | none => simp [hzv]
      | some j => simp
  cases hq : l.findIdx? (fun e => keyEq vk e.key) with
  | none =>
    simp only [hq] at hidx hrun
    rw [hidx] at hK
    cases ok with
    | false => exact VOk.same hg hf hs hrun hzr hK
    | true => exact VOk.same hg hf hs hrun (tup2_rel hzr (.d (.s _))) hK
  | some j =>
    simp only [hq] at hidx hrun
    obtain ⟨x, e1, hx⟩ := hidx
    rw [e1] at hK
    cases ok with
    | false => exact VOk.same hg hf hs hrun hx hK
    | true => exact VOk.same hg hf hs hrun (tup2_rel hx (.d (.s _))) hK

/-! ### maps that are made and written -/

def amakeMap (X : Cfg) (t : TypeId) (σ : St) (K : AV → St → Prop) : Prop :=
  ∃ ti, X.T t = some ti ∧ ∃ kt et, ti.kind = .map kt et ∧ ∃ tk, X.T kt = some tk ∧ K (.mp σ.next) (σ.alloc (.map tk.kind []))

theorem amakeMap_ok (hg : GRel X F) (hf : FRel F w) (hs : SRel F η σ w) {t : TypeId} {r : Option Value} (hr : r = none) (h : amakeMap X t σ K) :
    VOk X F η σ w ((Instr.makeMap t r).run X.P w) K := by
  obtain ⟨ti, ht, kt, et, hkd, tk, htk, hk⟩ := h
  subst hr
  have ha := Et.agree_withBlk η σ.next w.heap.size
  have hblk : (η.withBlk σ.next w.heap.size).blk σ.next = w.heap.size := by simp [Et.withBlk]
  obtain ⟨g1, g2, g3⟩ := upd (η' := η.withBlk σ.next w.heap.size) (w' := w.alloc (.map #[] 0)) hf hs σ.next (.map tk.kind []) (σ.next + 1) (Nat.lt_succ_self _) (Nat.le_succ _) ha ⟨by simp, rfl, rfl⟩
    (fun b hb _ => heap_alloc_old w _ hb)
    (.map #[] 0 (by rw [hblk]; exact heap_alloc_new w _) rfl (by simp) (fun k hk => by simp at hk) (fun k k' hk => by simp at hk) (fun k hk => by simp at hk) (fun k k' hk => by simp at hk) (fun k hk => by simp at hk))
    (fun b hb hlt => by simp only [own, hblk, Option.some.injEq] at hb; omega)
  refine ⟨.map (some w.heap.size), _, F, _, _, .mp σ.next, by simp [Instr.makeMap], g1, hg, g2, g3, ?_, hk⟩
  have := @VRel.mp F (η.withBlk σ.next w.heap.size) (σ.next + 1) σ.next (by omega)
  rw [hblk] at this
  exact this

def amapUpdate (X : Cfg) (t : TypeId) (m k v : AV) (σ : St) (K : AV → St → Prop) : Prop :=
  ∃ ti, X.T t = some ti ∧ ∃ kt et, ti.kind = .map kt et ∧ ∃ tk, X.T kt = some tk ∧ ∃ kv, k = .d (.s kv) ∧ keyFit tk.kind kv = true ∧
    ∃ i, m = .mp i ∧ ∃ es, σ.obj i = some (.map tk.kind es) ∧ K (.d (.s undef)) (σ.set i (.map tk.kind (aput es kv v)))

theorem aput_idx {α : Type} (k : Value) (v : α) : ∀ (es : List (Value × α)) (l : List MapEntry), es.length = l.length → (∀ j (h : j < es.length) (h' : j < l.length), (l[j]).key = (es[j]).1) →
    (match l.findIdx? (fun e => keyEq k e.key) with
      | some j => ∃ (h : j < es.length), aput es k v = es.set j (es[j].1, v) ∧ keyEq k (es[j].1) = true
      | none => aput es k v = es ++ [(k, v)])
  | [], [], _, _ => by simp [aput]
  | (k', u) :: es, e :: l, hl, h => by
    have h0 : e.key = k' := h 0 (by simp) (by simp)
    have ih := aput_idx k v es l (by simpa using hl) fun j h1 h2 => by have := h (j + 1) (by simp; omega) (by simp; omega); simpa using this
    simp only [List.findIdx?_cons, h0, aput]
    cases hq : keyEq k k' with
    | true => simp [hq]
    | false =>
      cases hi : l.findIdx? (fun e => keyEq k e.key) with
      | none => simp only [hi] at ih; simp [ih]
      | some j =>
        simp only [hi] at ih
        obtain ⟨hj, e1, e2⟩ := ih
        simp only [Option.map_some, Bool.false_eq_true, if_false]
        exact ⟨by simp; omega, by simp [e1], by simpa using e2⟩
  | [], e :: l, hl, _ => by simp at hl
  | x :: es, [], hl, _ => by simp at hl

theorem keyEq_same {kk : KD} {a b : Value} (ha : keyFit kk a = true) (hb : keyFit kk b = true) (h : keyEq a b = true) : a = b := by
  cases kk <;> cases a <;> simp [keyFit] at ha <;> cases b <;> simp [keyFit] at hb <;> simp [keyEq] at h
  · simp [h]
  · subst ha; subst hb; simp [h]
  · simp [h]

theorem run_keyStays {P : Program} {kk : KD} {a : Value} (ha : keyFit kk a = true) (w : World) : (Instr.keyThatStays a a).run P w = .ok a w := by
  have : Instr.sameBits 10000 a a = true := by
    cases kk <;> cases a <;> simp [keyFit] at ha
    · unfold Instr.sameBits; simp
    · unfold Instr.sameBits; simp
    · unfold Instr.sameBits; rw [bytes_beq]; simp
  simp [Instr.keyThatStays, this]

theorem amapUpdate_ok (hg : GRel X F) (hf : FRel F w) (hs : SRel F η σ w) {t : TypeId} {m k v : AV} {vm vk vv : Value} (hm : VRel F η σ.next m vm) (hkr : VRel F η σ.next k vk) (hv : VRel F η σ.next v vv)
    (h : amapUpdate X t m k v σ K) : ∃ w' σ', (Instr.mapUpdate t vm vk vv).run X.P w = .ok () w' ∧ Step F η σ w F η σ' w' ∧ FRel F w' ∧ SRel F η σ' w' ∧ K (.d (.s undef)) σ' := by
  obtain ⟨ti, ht, kt, et, hkd, tk, htk, kv, rfl, hfit, i1, rfl, es, ho, hK⟩ := h
  have := hkr.s_inv
  subst this
  obtain ⟨d, i, z, hu, hd, hi, _⟩ := X.ok t ti ht
  rw [hkd] at hd
  have := kind_map hd
  subst this
  obtain ⟨d2, i2, z2, hu2, hd2, hi2, _⟩ := X.ok kt tk htk
  cases hm with
  | mp g1 =>
    cases hs.ob i1 _ ho with
    | map ents clock hb hn hff hk hdd hb1 hb2 hr =>
      have hkey : ∀ j (h : j < es.length) (h' : j < ents.toList.length), (ents.toList[j]).key = (es[j]).1 := by
        intro j h h'
        have := hk j h
        rw [Array.getElem?_eq_getElem (by omega)] at this
        simp only [Option.map_some, Option.some.injEq] at this
        simpa using this
      have hlen : es.length = ents.toList.length := by simp [hn]
      have hfits : ∀ e ∈ ents.toList, keyFit tk.kind e.key = true := by
        intro e he
        obtain ⟨j, hj, rfl⟩ := List.mem_iff_getElem.1 he
        have hj' : j < es.length := by omega
        rw [hkey j hj' hj]
        exact hff _ (List.getElem_mem hj')
      have hfk := run_findKey hu2 hd2 hfit ents.toList hfits w
      have hck := run_checkKey hu2 hd2 hfit false w
      have hidx := aput_idx vk v es ents.toList hlen hkey
      have hgo : (getObj (η.blk i1)).run X.P w = .ok (.map ents clock) w := by simp [getObj, Sem.run, hb]
      have hlt : η.blk i1 < w.heap.size := (Array.getElem?_eq_some_iff.1 hb).1
      have hset : ∀ o, (setObj (η.blk i1) o).run X.P w = .ok () { w with heap := w.heap.setIfInBounds (η.blk i1) o } := by
        intro o; simp [setObj, Sem.run, hb]
      have heap_new : ∀ o, ({ w with heap := w.heap.setIfInBounds (η.blk i1) o } : World).heap[η.blk i1]? = some o := by
        intro o; simp [Array.getElem?_setIfInBounds, hlt]
      have heap_old : ∀ o b, b ≠ η.blk i1 → ({ w with heap := w.heap.setIfInBounds (η.blk i1) o } : World).heap[b]? = w.heap[b]? := by
        intro o b hne; simp [Array.getElem?_setIfInBounds, Ne.symm hne]
      have fin : ∀ (es' : List (Value × AV)) (ents' : Array MapEntry) (clock' : Nat), ents'.size = es'.length → (∀ e ∈ es', keyFit tk.kind e.1 = true) →
          (∀ k (h : k < es'.length), (ents'[k]?).map (fun e => e.key) = some es'[k].1) → (∀ k k' (h : k < es'.length) (h' : k' < es'.length), keyEq es'[k].1 es'[k'].1 = true → k = k') → (∀ k (h : k < ents'.size), ents'[k].born < clock') →
          (∀ k k' (h : k < ents'.size) (h' : k' < ents'.size), ents'[k].born = ents'[k'].born → k = k') →
          (∀ k (h : k < es'.length), VRel F η σ.next es'[k].2 ((ents'[k]?.map (fun e => e.val)).getD undef)) →
          Step F η σ w F η (σ.set i1 (.map tk.kind es')) { w with heap := w.heap.setIfInBounds (η.blk i1) (.map ents' clock') } ∧ FRel F { w with heap := w.heap.setIfInBounds (η.blk i1) (.map ents' clock') } ∧
          SRel F η (σ.set i1 (.map tk.kind es')) { w with heap := w.heap.setIfInBounds (η.blk i1) (.map ents' clock') } := by
        intro es' ents' clock' c1 c2 c3 c3' c4 c5 c6
        exact upd (η' := η) hf hs i1 (.map tk.kind es') σ.next g1 (Nat.le_refl _) (Et.agree_refl _ _) ⟨by simp, rfl, rfl⟩
          (fun b1 _ hno => heap_old _ b1 fun e => hno _ ho (by simp [own, e]))
          (.map ents' clock' (heap_new _) c1 c2 c3 c3' c4 c5 c6) (fun b1 hb1 _ => ⟨_, ho, by simpa [own] using hb1⟩)
      cases hq : ents.toList.findIdx? (fun e => keyEq vk e.key) with
      | none =>
        simp only [hq] at hidx hfk
        rw [hidx] at hK
        obtain ⟨s1, s2, s3⟩ := fin (es ++ [(vk, v)]) (ents.push { key := vk, val := vv, born := clock }) (clock + 1) (by simp [hn])
          (fun e he => by
            rcases List.mem_append.1 he with h | h
            · exact hff e h
            · simp only [List.mem_singleton] at h; subst h; exact hfit)
          (fun k hk' => by
            simp only [List.length_append, List.length_singleton] at hk'
            rw [Array.getElem?_push]
            by_cases hke : k = ents.size
            · subst hke
              rw [if_pos rfl]
              simp only [Option.map_some, Option.some.injEq]
              rw [List.getElem_append_right (by omega)]
              simp [hn]
            · rw [if_neg hke, List.getElem_append_left (by omega)]
              exact hk k (by omega))
          (fun k k' h1 h2 he => by
            have hno := List.findIdx?_eq_none_iff.1 hq
            have hne : ∀ (j : Nat) (h : j < es.length), keyEq vk es[j].1 = false := fun j h => by
              rw [← hkey j h (by omega)]; exact hno _ (List.getElem_mem _)
            simp only [List.length_append, List.length_singleton] at h1 h2
            by_cases hk1 : k < es.length
            · by_cases hk2 : k' < es.length
              · rw [List.getElem_append_left hk1, List.getElem_append_left hk2] at he
                exact hdd k k' hk1 hk2 he
              · exfalso
                rw [List.getElem_append_left hk1, List.getElem_append_right (by omega)] at he
                simp only [List.getElem_singleton] at he
                have h3 := keyEq_same (hff _ (List.getElem_mem hk1)) hfit he
                have h4 := hne k hk1
                rw [h3] at h4
                rw [h3] at he
                rw [he] at h4
                cases h4
            · by_cases hk2 : k' < es.length
              · exfalso
                rw [List.getElem_append_right (by omega), List.getElem_append_left hk2] at he
                simp only [List.getElem_singleton] at he
                rw [hne k' hk2] at he
                cases he
              · omega)
          (fun k hk' => by
            simp only [Array.size_push] at hk'
            rw [Array.getElem_push]
            split
            · have := hb1 k (by assumption); omega
            · simp)
          (fun k k' hk1 hk2 he => by
            simp only [Array.size_push] at hk1 hk2
            rw [Array.getElem_push, Array.getElem_push] at he
            split at he <;> split at he
            · exact hb2 k k' _ _ he
            · rename_i h3 h4; have := hb1 k h3; simp at he; omega
            · rename_i h3 h4; have := hb1 k' h4; simp at he; omega
            · omega)
          (fun k hk' => by
            simp only [List.length_append, List.length_singleton] at hk'
            rw [Array.getElem?_push]
            by_cases hke : k = ents.size
            · subst hke
              rw [if_pos rfl]
              simp only [Option.map_some, Option.getD_some]
              rw [List.getElem_append_right (by omega)]
              simpa [hn] using hv
            · rw [if_neg hke, List.getElem_append_left (by omega)]
              exact hr k (by omega))
        refine ⟨_, _, ?_, s1, s2, s3, hK⟩
        unfold Instr.mapUpdate
        simp only [Sem.run_bind, run_underlying hu, Result.andThen_ok, hgo, hck, hfk, hset]
      | some j =>
        simp only [hq] at hidx hfk
        obtain ⟨hj, e1, e2⟩ := hidx
        rw [e1] at hK
        have hjs : j < ents.size := by omega
        have hkj : (ents[j]).key = vk := by
          have h3 : (ents[j]).key = es[j].1 := by have := hkey j hj (by simpa using hjs); simpa using this
          rw [h3]
          exact (keyEq_same hfit (hff _ (List.getElem_mem hj)) e2).symm
        have hkj' : es[j].1 = vk := (keyEq_same hfit (hff _ (List.getElem_mem hj)) e2).symm
        have hst := run_keyStays (P := X.P) hfit w
        obtain ⟨s1, s2, s3⟩ := fin (es.set j (es[j].1, v)) (ents.modify j fun e => { e with key := vk, val := vv }) clock (by simp [hn])
          (fun e he => by
            rcases List.mem_or_eq_of_mem_set he with h | rfl
            · exact hff e h
            · have := hff _ (List.getElem_mem hj)
              exact this)
          (fun k hk' => by
            have hk2 : k < es.length := by simpa using hk'
            rw [Array.getElem?_modify]
            by_cases hke : j = k
            · subst hke
              simp [hjs, hkj']
            · rw [if_neg hke, List.getElem_set]
              simp only [hke, if_false]
              exact hk k hk2)
          (fun k k' h1 h2 he => by
            have hk1 : k < es.length := by simpa using h1
            have hk2 : k' < es.length := by simpa using h2
            have g : ∀ m (h : m < (es.set j (es[j].1, v)).length), ((es.set j (es[j].1, v))[m]'h).1 = (es[m]'(by simpa using h)).1 := by
              intro m h
              rw [List.getElem_set]
              split
              · rename_i hm; subst hm; rfl
              · rfl
            rw [g, g] at he
            exact hdd k k' hk1 hk2 he)
          (fun k hk' => by
            have hk2 : k < ents.size := by simpa using hk'
            rw [Array.getElem_modify]
            split
            · exact hb1 k hk2
            · exact hb1 k hk2)
          (fun k k' hk1 hk2 he => by
            have hk3 : k < ents.size := by simpa using hk1
            have hk4 : k' < ents.size := by simpa using hk2
            rw [Array.getElem_modify, Array.getElem_modify] at he
            refine hb2 k k' hk3 hk4 ?_
            split at he <;> split at he <;> exact he)
          (fun k hk' => by
            have hk2 : k < es.length := by simpa using hk'
            rw [Array.getElem?_modify]
            by_cases hke : j = k
            · subst hke
              simpa [hjs] using hv
            · rw [if_neg hke, List.getElem_set]
              simp only [hke, if_false]
              exact hr k hk2)
        refine ⟨_, _, ?_, s1, s2, s3, hK⟩
        unfold Instr.mapUpdate
        have hgk : ((ents[j]?).map (·.key)).getD vk = vk := by simp [hjs, hkj]
        simp only [Sem.run_bind, run_underlying hu, Result.andThen_ok, hgo, hck, hfk, hgk, hst, hset]
end ops
end Go.Pm
