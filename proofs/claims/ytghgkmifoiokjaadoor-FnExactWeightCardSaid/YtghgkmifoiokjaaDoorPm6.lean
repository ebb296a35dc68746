/- The abstract machine, sixth text: slicing, fields, indexes, lengths, numbers, strings. -/
import Derived.Test.YtghgkmifoiokjaaDoorPm5
set_option linter.unusedVariables false
set_option linter.unusedSimpArgs false
namespace Go.Pm

section ops
variable {X : Cfg} {F : FH} {η : Et} {σ : St} {w : World} {K : AV → St → Prop}

/-! ### fields -/

def afieldAddr (X : Cfg) (s : TypeId) (p : AV) (f : Nat) (σ : St) (K : AV → St → Prop) : Prop :=
  ∃ ti, X.T s = some ti ∧ ∃ fs, ti.kind = .struct fs ∧ ∃ fd, fs[f]? = some fd ∧ ∃ tf, X.T fd.2 = some tf ∧ 0 < tf.size ∧
    match p with
    | .ref i off => K (.ref i (off + fd.1)) σ
    | .ep i v k off => K (.ep i v k (off + fd.1)) σ
    | .d (.ip cells off) => K (.d (.ip cells (off + fd.1))) σ
    | _ => False

theorem run_fieldAt {P : Program} {s : TypeId} {a : Array Field} {f : Nat} {fd : Field} {i : TypeInfo} (hu : P.underlying s = some (.struct a)) (hf : a[f]? = some fd) (hi : P.info? fd.type = some i)
    (hp : i.size ≠ 0) (b o : Nat) (w : World) : (Instr.fieldAt s (.pointer (some ⟨b, o, none⟩)) f).run P w = .ok (.pointer (some ⟨b, o + fd.offset, none⟩)) w := by
  simp [Instr.fieldAt, run_underlying hu, hf, Instr.sureAddr, fieldPlace, run_sizeOf hi, hp, Addr.add_lit]

theorem struct_field {a : Array Field} {f : Nat} {fd : Nat × TypeId} (h : (a.toList.map fun f => (f.offset, f.type))[f]? = some fd) : ∃ g, a[f]? = some g ∧ g.offset = fd.1 ∧ g.type = fd.2 := by
  rw [List.getElem?_map] at h
  cases hg : a.toList[f]? with
  | none => simp [hg] at h
  | some g =>
    simp only [hg, Option.map_some, Option.some.injEq] at h
    exact ⟨g, by simpa using hg, by rw [← h], by rw [← h]⟩

theorem afieldAddr_ok (hg : GRel X F) (hf : FRel F w) (hs : SRel F η σ w) {s : TypeId} {p : AV} {f : Nat} {vp : Value} (hp : VRel F η σ.next p vp) (h : afieldAddr X s p f σ K) :
    VOk X F η σ w ((Instr.fieldAt s vp f).run X.P w) K := by
  obtain ⟨ti, ht, fs, hkd, fd, hfd, tf, htf, hpos, hm⟩ := h
  obtain ⟨d, i, z, hu, hd, hi, hsz, _⟩ := X.ok s ti ht
  rw [hkd] at hd
  obtain ⟨a, rfl, rfl⟩ := kind_struct hd
  obtain ⟨g, hga, hgo, hgt⟩ := struct_field hfd
  obtain ⟨d', i', z', hu', hd', hi', hsz', _⟩ := X.ok fd.2 tf htf
  rw [← hgt] at hi'
  have hrun : ∀ b o, (Instr.fieldAt s (.pointer (some ⟨b, o, none⟩)) f).run X.P w = .ok (.pointer (some ⟨b, o + fd.1, none⟩)) w := fun b o => by
    rw [← hgo]; exact run_fieldAt hu hga hi' (by omega) b o w
  split at hm
  · cases hp with | ref h1 => exact VOk.same hg hf hs (hrun _ _) (.ref h1) hm
  · cases hp with
    | ep h1 h2 hh =>
      refine VOk.same hg hf hs (hrun _ _) ?_ hm
      rw [Nat.add_assoc]; exact .ep h1 h2 hh
  · cases hp with
    | d hd =>
      cases hd with
      | ip _ off b o c E fz f0 hb hc ho hr =>
        refine VOk.same hg hf hs (hrun _ _) ?_ hm
        rw [Nat.add_assoc]; exact .d (.ip _ _ b o c E fz f0 hb hc ho hr)
  · exact hm.elim

def afield (X : Cfg) (t : TypeId) (x : AV) (f : Nat) (σ : St) (K : AV → St → Prop) : Prop :=
  ∃ ti, X.T t = some ti ∧ ∃ fs, ti.kind = .struct fs ∧ ∃ fd, fs[f]? = some fd ∧ ∃ tf, X.T fd.2 = some tf ∧ ∃ cs, x = .agg cs ∧ ∃ r, piece (isAggK tf.kind) cs fd.1 tf.size = some r ∧ K r σ

theorem run_part {P : Program} {n : Nat} {t : TypeId} {d : TypeDesc} {i : TypeInfo} (hu : P.underlying t = some d) (hi : P.info? t = some i) {cs : List AV} {vs : Array Value} {off : Nat}
    (hn : vs.size = cs.length) (hr : ∀ j (h : j < cs.length), VRel F η n cs[j] (vs.getD j undef)) {r : AV} (hp : piece (isAggK (kindOf d)) cs off i.size = some r) (w : World) :
    ∃ v, (part t vs off).run P w = .ok v w ∧ VRel F η n r v := by
  unfold piece at hp
  cases hd : isAggK (kindOf d) with
  | true =>
    simp only [hd, if_true] at hp
    split at hp
    · rename_i hle
      simp only [Option.some.injEq] at hp
      subst hp
      refine ⟨.agg (vs.extract off (off + i.size)), by simp [part, run_isAgg hu, hd, run_sizeOf hi], .agg (by simp; omega) fun j hj => ?_⟩
      simp only [List.length_take, List.length_drop] at hj
      have := hr (off + j) (by omega)
      have e : (vs.extract off (off + i.size)).getD j undef = vs.getD (off + j) undef := by
        rw [Array.getD_eq_getD_getElem?, Array.getElem?_extract, if_pos (by omega), Array.getD_eq_getD_getElem?]
      rw [e]
      simpa using this
    · simp at hp
  | false =>
    simp only [hd, Bool.false_eq_true, if_false] at hp
    obtain ⟨hlt, rfl⟩ := List.getElem?_eq_some_iff.1 hp
    have hlt' : off < vs.size := by omega
    refine ⟨vs[off], by simp [part, run_isAgg hu, hd, hlt'], ?_⟩
    have := hr off hlt
    simpa [Array.getD, hlt'] using this

theorem afield_ok (hg : GRel X F) (hf : FRel F w) (hs : SRel F η σ w) {t : TypeId} {x : AV} {f : Nat} {vx : Value} (hx : VRel F η σ.next x vx) (h : afield X t x f σ K) :
    VOk X F η σ w ((Instr.field t vx f).run X.P w) K := by
  obtain ⟨ti, ht, fs, hkd, fd, hfd, tf, htf, cs, rfl, r, hr, hk⟩ := h
  obtain ⟨d, i, z, hu, hd, hi, hsz, _⟩ := X.ok t ti ht
  rw [hkd] at hd
  obtain ⟨a, rfl, rfl⟩ := kind_struct hd
  obtain ⟨g, hga, hgo, hgt⟩ := struct_field hfd
  obtain ⟨d', i', z', hu', hd', hi', hsz', _⟩ := X.ok fd.2 tf htf
  cases hx with
  | agg hn hrel =>
    rw [← hd', ← hsz'] at hr
    obtain ⟨v, hv, hvr⟩ := run_part hu' hi' hn hrel hr w
    refine VOk.same hg hf hs ?_ hvr hk
    rw [← hgt, ← hgo] at hv
    simp [Instr.field, run_underlying hu, hga, asAgg, hv]

/-! ### slicing -/

def optInt : Option AV → Option (Option Int)
  | none => some none
  | some (.d (.s (.int _ n))) => some (some n)
  | _ => none

def aslice (X : Cfg) (t : TypeId) (x : AV) (lo hi : Option AV) (σ : St) (K : AV → St → Prop) : Prop :=
  ∃ ti, X.T t = some ti ∧ ∃ l, optInt lo = some l ∧ ∃ h, optInt hi = some h ∧
    match ti.kind, x with
    | .string, .d (.s (.string s)) => 0 ≤ l.getD 0 ∧ l.getD 0 ≤ h.getD s.size ∧ h.getD s.size ≤ s.size ∧ K (.d (.s (.string (s.extract (l.getD 0).toNat (h.getD s.size).toNat)))) σ
    | .slice e, .d (.im rows) => 0 ≤ l.getD 0 ∧ l.getD 0 ≤ h.getD rows.length ∧ h.getD rows.length ≤ rows.length ∧ (∃ te, X.T e = some te ∧ ∀ r ∈ rows, r.length = te.size) ∧
        K (.d (.im ((rows.drop (l.getD 0).toNat).take ((h.getD rows.length).toNat - (l.getD 0).toNat)))) σ
    | .slice e, .d (.s (.slice none 0 0)) => l.getD 0 = 0 ∧ h.getD 0 = 0 ∧ (∃ te, X.T e = some te) ∧ K (.d (.s (.slice none 0 0))) σ
    | .slice e, .sl i v a b => 0 ≤ l.getD 0 ∧ l.getD 0 ≤ h.getD ((b - a : Nat) : Int) ∧ h.getD ((b - a : Nat) : Int) ≤ ((b - a : Nat) : Int) ∧
        (∃ te rows, X.T e = some te ∧ σ.obj i = some (.row v e te.size rows)) ∧
        K (.sl i v (a + (l.getD 0).toNat) (a + (h.getD ((b - a : Nat) : Int)).toNat)) σ
    | _, _ => False

theorem run_bounds {P : Program} {lo hi : Option AV} {l h : Option Int} (hl : optInt lo = some l) (hh : optInt hi = some h) {vlo vhi : Option Value}
    (hlo : ∀ x v, lo = some x → vlo = some v → VRel F η σ.next x v) (hhi : ∀ x v, hi = some x → vhi = some v → VRel F η σ.next x v) (hln : lo.isSome = vlo.isSome) (hhn : hi.isSome = vhi.isSome)
    (sl : Bool) (len cap : Nat) (h1 : 0 ≤ l.getD 0) (h2 : l.getD 0 ≤ h.getD len) (h3 : h.getD len ≤ len) (h4 : len ≤ cap) (w : World) :
    (Instr.sliceBounds sl len cap vlo vhi none).run P w = .ok ((l.getD 0).toNat, (h.getD len).toNat, cap) w := by
  have el : (vlo = none ∧ l = none) ∨ ∃ k n, vlo = some (.int k n) ∧ l = some n := by
    cases lo with
    | none =>
      simp [optInt] at hl
      subst hl
      cases vlo with
      | none => exact .inl ⟨rfl, rfl⟩
      | some v => simp at hln
    | some x =>
      cases vlo with
      | none => simp at hln
      | some v =>
        unfold optInt at hl
        split at hl
        · simp_all
        · rename_i k n he
          simp only [Option.some.injEq] at hl he
          subst hl; subst he
          have := (hlo _ v rfl rfl).s_inv
          exact .inr ⟨k, n, by rw [this], rfl⟩
        · simp at hl
  have eh : (vhi = none ∧ h = none) ∨ ∃ k n, vhi = some (.int k n) ∧ h = some n := by
    cases hi with
    | none =>
      simp [optInt] at hh
      subst hh
      cases vhi with
      | none => exact .inl ⟨rfl, rfl⟩
      | some v => simp at hhn
    | some x =>
      cases vhi with
      | none => simp at hhn
      | some v =>
        unfold optInt at hh
        split at hh
        · simp_all
        · rename_i k n he
          simp only [Option.some.injEq] at hh he
          subst hh; subst he
          have := (hhi _ v rfl rfl).s_inv
          exact .inr ⟨k, n, by rw [this], rfl⟩
        · simp at hh
  rcases el with ⟨rfl, rfl⟩ | ⟨kl, nl, rfl, rfl⟩ <;> rcases eh with ⟨rfl, rfl⟩ | ⟨kh, nh, rfl, rfl⟩ <;> simp only [Option.getD_none, Option.getD_some] at h1 h2 h3 ⊢
  · simp [Instr.sliceBounds]
  · have : nh ≤ (cap : Int) := by omega
    simp [Instr.sliceBounds, run_sliceBound, h2, this]
  · have : nl ≤ (len : Int) := by omega
    simp [Instr.sliceBounds, run_sliceBound, h1, this]
  · have h5 : nh ≤ (cap : Int) := by omega
    have h6 : 0 ≤ nh := by omega
    have h7 : nl ≤ ((nh.toNat : Nat) : Int) := by omega
    have h8 := run_sliceBound (P := P) w kl nl nh.toNat .sliceB h1 h7
    simp only [Instr.sliceBounds, Sem.run_bind, Sem.run_pure, Result.andThen_ok, run_sliceBound w kh nh cap _ h6 h5, Option.isSome_none, Bool.false_eq_true, if_false, h8]

theorem sliced_getElem {α : Type} (rows : List α) (l h k : Nat) (hk : k < ((rows.drop l).take (h - l)).length) : l + k < rows.length ∧ ((rows.drop l).take (h - l))[k]? = rows[l + k]? := by
  simp only [List.length_take, List.length_drop] at hk
  refine ⟨by omega, ?_⟩
  rw [List.getElem?_take, if_pos (by omega), List.getElem?_drop]

theorem aslice_ok (hg : GRel X F) (hf : FRel F w) (hs : SRel F η σ w) {t : TypeId} {x : AV} {lo hi : Option AV} {vx : Value} {vlo vhi : Option Value} (hx : VRel F η σ.next x vx)
    (hlo : ∀ x v, lo = some x → vlo = some v → VRel F η σ.next x v) (hhi : ∀ x v, hi = some x → vhi = some v → VRel F η σ.next x v) (hln : lo.isSome = vlo.isSome) (hhn : hi.isSome = vhi.isSome)
    (h : aslice X t x lo hi σ K) : VOk X F η σ w ((Instr.sliceAt t vx vlo vhi none).run X.P w) K := by
  obtain ⟨ti, ht, l, hl, h, hh, hm⟩ := h
  obtain ⟨d, i, z, hu, hd, hi', hsz, _⟩ := X.ok t ti ht
  split at hm
  · rename_i s hkd
    rw [hkd] at hd
    have := kind_string hd
    subst this
    have := hx.s_inv
    subst this
    obtain ⟨h1, h2, h3, hk⟩ := hm
    have hb := run_bounds (P := X.P) hl hh hlo hhi hln hhn false s.size s.size h1 h2 h3 (Nat.le_refl _) w
    refine VOk.same hg hf hs (v := .string (s.extract (l.getD 0).toNat (h.getD s.size).toNat)) ?_ (.d (.s _)) hk
    simp [Instr.sliceAt, Instr.slice, run_underlying hu, hb]
  · rename_i e rows hkd
    rw [hkd] at hd
    have := kind_slice hd
    subst this
    obtain ⟨h1, h2, h3, ⟨te, hte, hlen⟩, hk⟩ := hm
    obtain ⟨d2, i2, z2, hu2, hd2, hi2, hsz2, _⟩ := X.ok e te hte
    have key : ∀ (a : Option Addr) (cap : Nat), rows.length ≤ cap → (Instr.sliceAt t (.slice a rows.length cap) vlo vhi none).run X.P w =
        .ok (.slice (if cap = (l.getD 0).toNat then a else a.map (·.add ((l.getD 0).toNat * te.size))) ((h.getD rows.length).toNat - (l.getD 0).toNat) (cap - (l.getD 0).toNat)) w := by
      intro a cap hc
      have hb := run_bounds (P := X.P) hl hh hlo hhi hln hhn true rows.length cap h1 h2 h3 hc w
      simp [Instr.sliceAt, Instr.slice, run_underlying hu, hb, run_sizeOf hi2, hsz2]
    cases hx with
    | d hd =>
      cases hd with
      | im0 a cap =>
        have hh0 : (h.getD (([] : List (List D)).length : Int)).toNat = 0 := by simp at h3 ⊢; omega
        refine VOk.same hg hf hs (key a cap (Nat.zero_le _)) ?_ hk
        rw [hh0]
        simp only [List.drop_nil, List.take_nil, Nat.zero_sub]
        exact .d (.im0 _ _)
      | im rows b o cap sz c E fz f hb hcap hszr hc ho hr =>
        have hlen2 : ((rows.drop (l.getD 0).toNat).take ((h.getD rows.length).toNat - (l.getD 0).toNat)).length = (h.getD rows.length).toNat - (l.getD 0).toNat := by
          simp only [List.length_take, List.length_drop]; omega
        by_cases hz : (h.getD rows.length).toNat - (l.getD 0).toNat = 0
        · refine VOk.same hg hf hs (key _ cap hcap) ?_ hk
          rw [hz, List.take_zero]
          exact .d (.im0 _ _)
        · have hcl : ¬ cap = (l.getD 0).toNat := by omega
          have hk' := key (some ⟨b, o, none⟩) cap hcap
          rw [if_neg hcl, Option.map_some, Addr.add_lit] at hk'
          refine VOk.same hg hf hs hk' ?_ hk
          obtain ⟨r0, hr0⟩ : ∃ r, r ∈ rows := ⟨rows[0]'(by omega), List.getElem_mem _⟩
          have hss : te.size = sz := by rw [← hlen r0 hr0, hszr r0 hr0]
          rw [hss]
          have hgk : ∀ k (hk : k < ((rows.drop (l.getD 0).toNat).take ((h.getD rows.length).toNat - (l.getD 0).toNat)).length),
              ∃ h1 : (l.getD 0).toNat + k < rows.length, ((rows.drop (l.getD 0).toNat).take ((h.getD rows.length).toNat - (l.getD 0).toNat))[k] = rows[(l.getD 0).toNat + k] := by
            intro k hk
            obtain ⟨h1, h2⟩ := sliced_getElem rows _ _ k hk
            refine ⟨h1, ?_⟩
            rw [List.getElem?_eq_getElem hk, List.getElem?_eq_getElem h1] at h2
            exact Option.some.inj h2
          have := DRel.im (F := F) ((rows.drop (l.getD 0).toNat).take ((h.getD rows.length).toNat - (l.getD 0).toNat)) b (o + (l.getD 0).toNat * sz) (cap - (l.getD 0).toNat) sz c E fz (fun k j => f ((l.getD 0).toNat + k) j) hb
            (by rw [hlen2]; omega) (fun r hr => hszr r (List.mem_of_mem_drop (List.mem_of_mem_take hr)))
            (fun k hk j hj => by
              obtain ⟨h1, h2⟩ := hgk k hk
              have := hc _ h1 j hj
              rw [Nat.add_mul] at this
              rw [show o + (l.getD 0).toNat * sz + k * sz + j = o + ((l.getD 0).toNat * sz + k * sz) + j by omega]
              exact this)
            (fun k hk j hj => by obtain ⟨h1, h2⟩ := hgk k hk; exact ho _ h1 j hj)
            (fun k hk j hj => by
              obtain ⟨h1, h2⟩ := hgk k hk
              have hj2 : j < (rows[(l.getD 0).toNat + k]).length := by rw [← h2]; exact hj
              have e2 : (((rows.drop (l.getD 0).toNat).take ((h.getD rows.length).toNat - (l.getD 0).toNat))[k]'hk)[j]'hj = (rows[(l.getD 0).toNat + k])[j]'hj2 := by simp only [h2]
              rw [e2]
              exact hr _ h1 j hj2)
          rw [hlen2] at this
          exact .d this
  · rename_i e hkd
    rw [hkd] at hd
    have := kind_slice hd
    subst this
    obtain ⟨h1, h2, ⟨te, hte⟩, hk⟩ := hm
    obtain ⟨d2, i2, z2, hu2, hd2, hi2, hsz2, _⟩ := X.ok e te hte
    have := hx.s_inv
    subst this
    have hb := run_bounds (P := X.P) hl hh hlo hhi hln hhn true 0 0 (by omega) (by rw [h1]; simp [h2]) (by simp [h2]) (Nat.le_refl _) w
    simp only [Int.natCast_zero, h1, h2, Int.toNat_zero] at hb
    refine VOk.same hg hf hs ?_ (.d (.s _)) hk
    simp [Instr.sliceAt, Instr.slice, run_underlying hu, hb, run_sizeOf hi2]
  · rename_i e i1 v a b hkd
    rw [hkd] at hd
    have := kind_slice hd
    subst this
    obtain ⟨h1, h2, h3, ⟨te, rows, hte, ho⟩, hk⟩ := hm
    obtain ⟨d2, i2, z2, hu2, hd2, hi2, hsz2, _⟩ := X.ok e te hte
    cases hs.ob i1 _ ho with
    | row xs hv hs' hpos hown hszr ho1 hrr =>
    cases hx with
    | sl0 g1 g2 hhd =>
      simp only [Nat.sub_self, Int.natCast_zero] at h2 h3 hk
      have hl0 : (l.getD 0).toNat = 0 := by omega
      have hh0 : (h.getD 0).toNat = 0 := by omega
      have hb := run_bounds (P := X.P) hl hh hlo hhi hln hhn true 0 0 h1 (by simpa using h2) (by simpa using h3) (Nat.le_refl _) w
      simp only [Int.natCast_zero, hl0, hh0] at hb
      rw [hl0, hh0] at hk
      refine VOk.same hg hf hs (v := .slice none 0 0) ?_ (.sl0 g1 g2 hhd) hk
      simp [Instr.sliceAt, Instr.slice, run_underlying hu, hb, run_sizeOf hi2]
    | @sl _ _ _ _ blk cap sz off g1 g2 hhd hle hc hoff =>
      have hb := run_bounds (P := X.P) hl hh hlo hhi hln hhn true (b - a) (cap - a) h1 h2 h3 (by omega) w
      have hsz3 : te.size = sz := by rw [← hs', hhd]
      have e1 : (h.getD ((b - a : Nat) : Int)).toNat - (l.getD 0).toNat = (a + (h.getD ((b - a : Nat) : Int)).toNat) - (a + (l.getD 0).toNat) := by omega
      have e2 : cap - a - (l.getD 0).toNat = cap - (a + (l.getD 0).toNat) := by omega
      by_cases hcl : cap - a = (l.getD 0).toNat
      · refine VOk.same hg hf hs (v := .slice (some ⟨blk, off, none⟩) ((a + (h.getD ((b - a : Nat) : Int)).toNat) - (a + (l.getD 0).toNat)) (cap - (a + (l.getD 0).toNat))) ?_ (.sl g1 g2 hhd (by omega) (by omega) (by omega)) hk
        rw [← e1, ← e2]
        rw [hcl] at hb
        simp [Instr.sliceAt, Instr.slice, run_underlying hu, hb, run_sizeOf hi2, hcl]
      · have ho2 := hoff (by omega)
        refine VOk.same hg hf hs (v := .slice (some ⟨blk, off + (l.getD 0).toNat * te.size, none⟩) ((a + (h.getD ((b - a : Nat) : Int)).toNat) - (a + (l.getD 0).toNat)) (cap - (a + (l.getD 0).toNat))) ?_
          (.sl g1 g2 hhd (by omega) (by omega) (fun _ => by rw [ho2, hsz3, Nat.add_mul])) hk
        rw [← e1, ← e2]
        simp [Instr.sliceAt, Instr.slice, run_underlying hu, hb, run_sizeOf hi2, hsz2, hcl, Addr.add_lit]
  · exact hm.elim

/-! ### indexes and lengths -/

def aindexAddr (X : Cfg) (t : TypeId) (x ix : AV) (σ : St) (K : AV → St → Prop) : Prop :=
  ∃ n : Int, (∃ k, ix = .d (.s (.int k n))) ∧ 0 ≤ n ∧ ∃ ti, X.T t = some ti ∧
    match ti.kind, x with
    | .slice e, .d (.im rows) => n < rows.length ∧ ∃ te, X.T e = some te ∧ ∃ r, rows[n.toNat]? = some r ∧ r.length = te.size ∧ K (.d (.ip r 0)) σ
    | .slice e, .sl i v lo hi => n < ((hi - lo : Nat) : Int) ∧ (∃ te rows, X.T e = some te ∧ σ.obj i = some (.row v e te.size rows)) ∧ K (.ep i v (lo + n.toNat) 0) σ
    | .array m e, .ref i off => n < m ∧ ∃ te, X.T e = some te ∧ K (.ref i (off + n.toNat * te.size)) σ
    | .array m e, .ep i v k off => n < m ∧ ∃ te, X.T e = some te ∧ K (.ep i v k (off + n.toNat * te.size)) σ
    | .array m e, .d (.ip cs off) => n < m ∧ ∃ te, X.T e = some te ∧ K (.d (.ip cs (off + n.toNat * te.size))) σ
    | _, _ => False

theorem aindexAddr_ok (hg : GRel X F) (hf : FRel F w) (hs : SRel F η σ w) {t : TypeId} {x ix : AV} {vx vi : Value} (hx : VRel F η σ.next x vx) (hi : VRel F η σ.next ix vi)
    (h : aindexAddr X t x ix σ K) : VOk X F η σ w ((Instr.indexAt t vx vi).run X.P w) K := by
  obtain ⟨n, ⟨k, rfl⟩, hn, ti, ht, hm⟩ := h
  have := hi.s_inv
  subst this
  obtain ⟨d, i, z, hu, hd, hi', hsz, _⟩ := X.ok t ti ht
  have arr : ∀ {m e : Nat} {te : TI}, ti.kind = .array m e → X.T e = some te → n < m → ∀ b o, (Instr.indexAt t (.pointer (some ⟨b, o, none⟩)) (.int k n)).run X.P w = .ok (.pointer (some ⟨b, o + n.toNat * te.size, none⟩)) w := by
    intro m e te hkd hte hnm b o
    rw [hkd] at hd
    have := kind_array hd
    subst this
    obtain ⟨d2, i2, z2, hu2, hd2, hi2, hsz2, _⟩ := X.ok e te hte
    simp [Instr.indexAt, asIntOf, run_underlying hu, Instr.sureAddr, hn, hnm, run_sizeOf hi2, hsz2, Addr.add_lit]
  split at hm
  · rename_i e rows hkd
    rw [hkd] at hd
    have := kind_slice hd
    subst this
    obtain ⟨hlt, te, hte, r, hr, hrl, hk⟩ := hm
    obtain ⟨d2, i2, z2, hu2, hd2, hi2, hsz2, _⟩ := X.ok e te hte
    cases hx with
    | d hd =>
      cases hd with
      | im0 a cap => simp at hlt; omega
      | im rows b o cap sz c E fz f hb hcap hszr hc ho hrr =>
        obtain ⟨hkl, rfl⟩ := List.getElem?_eq_some_iff.1 hr
        have hss : te.size = sz := by rw [← hrl, hszr _ (List.getElem_mem hkl)]
        refine VOk.same hg hf hs (v := .pointer (some ⟨b, o + n.toNat * te.size + 0, none⟩)) ?_ ?_ hk
        · simp [Instr.indexAt, asIntOf, run_underlying hu, hn, hlt, run_sizeOf hi2, hsz2, Addr.add_lit]
        · rw [hss]
          exact .d (.ip _ 0 b (o + n.toNat * sz) c E fz (f n.toNat) hb (fun j hj => by rw [hszr _ (List.getElem_mem hkl)] at hj; exact hc _ hkl j hj)
            (fun j hj => by rw [hszr _ (List.getElem_mem hkl)] at hj; exact ho _ hkl j hj) (fun j hj => hrr _ hkl j hj))
  · rename_i e i1 v lo hi1 hkd
    rw [hkd] at hd
    have := kind_slice hd
    subst this
    obtain ⟨hlt, ⟨te, rows, hte, ho⟩, hk⟩ := hm
    obtain ⟨d2, i2, z2, hu2, hd2, hi2, hsz2, _⟩ := X.ok e te hte
    cases hx with
    | sl0 g1 g2 hhd => simp at hlt; omega
    | @sl _ _ _ _ blk cap sz off g1 g2 hhd hle hc hoff =>
      cases hs.ob i1 _ ho with
      | row xs hv hs' hpos hown hszr ho1 hrr =>
      have hsz3 : te.size = sz := by rw [← hs', hhd]
      have ho2 := hoff (by omega)
      refine VOk.same hg hf hs (v := .pointer (some ⟨blk, (lo + n.toNat) * sz + 0, none⟩)) ?_ (.ep g1 g2 hhd) hk
      simp [Instr.indexAt, asIntOf, run_underlying hu, hn, hlt, run_sizeOf hi2, hsz2, Addr.add_lit, ho2, hsz3, Nat.add_mul]
  · rename_i m e i1 off hkd
    obtain ⟨hlt, te, hte, hk⟩ := hm
    cases hx with
    | ref g1 => exact VOk.same hg hf hs (arr hkd hte hlt _ _) (.ref g1) hk
  · rename_i m e i1 v k1 off hkd
    obtain ⟨hlt, te, hte, hk⟩ := hm
    cases hx with
    | ep g1 g2 hhd =>
      refine VOk.same hg hf hs (arr hkd hte hlt _ _) ?_ hk
      rw [Nat.add_assoc]; exact .ep g1 g2 hhd
  · rename_i m e cs off hkd
    obtain ⟨hlt, te, hte, hk⟩ := hm
    cases hx with
    | d hd =>
      cases hd with
      | ip _ _ b o c E fz f hb hc ho hr =>
        refine VOk.same hg hf hs (arr hkd hte hlt _ _) ?_ hk
        rw [Nat.add_assoc]; exact .d (.ip _ _ b o c E fz f hb hc ho hr)
  · exact hm.elim

def aindex (X : Cfg) (t : TypeId) (x ix : AV) (σ : St) (K : AV → St → Prop) : Prop :=
  ∃ n : Int, (∃ k, ix = .d (.s (.int k n))) ∧ 0 ≤ n ∧ ∃ ti, X.T t = some ti ∧
    match ti.kind, x with
    | .string, .d (.s (.string s)) => ∃ b, s[n.toNat]? = some b ∧ K (.d (.s (.int .u8 b.toNat))) σ
    | _, _ => False

theorem aindex_ok (hg : GRel X F) (hf : FRel F w) (hs : SRel F η σ w) {t : TypeId} {x ix : AV} {vx vi : Value} (hx : VRel F η σ.next x vx) (hi : VRel F η σ.next ix vi)
    (h : aindex X t x ix σ K) : VOk X F η σ w ((Instr.index t vx vi).run X.P w) K := by
  obtain ⟨n, ⟨k, rfl⟩, hn, ti, ht, hm⟩ := h
  have := hi.s_inv
  subst this
  obtain ⟨d, i, z, hu, hd, hi', hsz, _⟩ := X.ok t ti ht
  split at hm
  · rename_i s hkd
    rw [hkd] at hd
    have := kind_string hd
    subst this
    have := hx.s_inv
    subst this
    obtain ⟨b, hb, hk⟩ := hm
    refine VOk.same hg hf hs (v := .int .u8 b.toNat) ?_ (.d (.s _)) hk
    simp [Instr.index, asIntOf, run_underlying hu, hn, hb]
  · exact hm.elim

def alen (X : Cfg) (t : TypeId) (x : AV) (σ : St) (K : AV → St → Prop) : Prop :=
  ∃ ti, X.T t = some ti ∧
    match ti.kind, x with
    | .string, .d (.s (.string s)) => K (.d (.s (.int .i64 s.size))) σ
    | .slice _, .d (.im rows) => K (.d (.s (.int .i64 rows.length))) σ
    | .slice _, .d (.s (.slice _ n _)) => K (.d (.s (.int .i64 n))) σ
    | .slice _, .sl _ _ lo hi => K (.d (.s (.int .i64 ((hi - lo : Nat) : Int)))) σ
    | .map _ _, .d (.mp _ es) => K (.d (.s (.int .i64 es.length))) σ
    | .map _ _, .mp i => ∃ kk es, σ.obj i = some (.map kk es) ∧ K (.d (.s (.int .i64 es.length))) σ
    | _, _ => False

theorem alen_ok (hg : GRel X F) (hf : FRel F w) (hs : SRel F η σ w) {t ty : TypeId} {x : AV} {vx : Value} (hx : VRel F η σ.next x vx) (h : alen X t x σ K) :
    VOk X F η σ w ((Builtin.len_ #[t] ty #[vx]).run X.P w) K := by
  obtain ⟨ti, ht, hm⟩ := h
  obtain ⟨d, i, z, hu, hd, hi', hsz, _⟩ := X.ok t ti ht
  split at hm
  · rename_i s hkd
    rw [hkd] at hd
    have := kind_string hd
    subst this
    have := hx.s_inv
    subst this
    refine VOk.same hg hf hs ?_ (.d (.s _)) hm
    simp [Builtin.len_, run_underlying hu, goInt]
  · rename_i e rows hkd
    rw [hkd] at hd
    have := kind_slice hd
    subst this
    cases hx with
    | d hd =>
      cases hd with
      | im0 a cap =>
        refine VOk.same hg hf hs ?_ (.d (.s _)) hm
        simp [Builtin.len_, run_underlying hu, goInt]
      | im =>
        refine VOk.same hg hf hs ?_ (.d (.s _)) hm
        simp [Builtin.len_, run_underlying hu, goInt]
  · rename_i e a n c hkd
    rw [hkd] at hd
    have := kind_slice hd
    subst this
    have := hx.s_inv
    subst this
    refine VOk.same hg hf hs ?_ (.d (.s _)) hm
    simp [Builtin.len_, run_underlying hu, goInt]
  · rename_i e i1 v lo hi hkd
    rw [hkd] at hd
    have := kind_slice hd
    subst this
    cases hx with
    | sl0 =>
      refine VOk.same hg hf hs ?_ (.d (.s _)) hm
      simp [Builtin.len_, run_underlying hu, goInt]
    | sl =>
      refine VOk.same hg hf hs ?_ (.d (.s _)) hm
      simp [Builtin.len_, run_underlying hu, goInt]
  · rename_i k e kk es hkd
    rw [hkd] at hd
    have := kind_map hd
    subst this
    cases hx with
    | d hd =>
      cases hd with
      | mp0 =>
        refine VOk.same hg hf hs ?_ (.d (.s _)) hm
        simp [Builtin.len_, run_underlying hu, goInt]
      | mp _ _ r ents clock f π hb hn hff hdd hk hsu hr =>
        refine VOk.same hg hf hs ?_ (.d (.s _)) hm
        have := hf _ _ hb
        simp [Builtin.len_, run_underlying hu, goInt, getObj, Sem.run, this, hn]
  · rename_i k e i1 hkd
    rw [hkd] at hd
    have := kind_map hd
    subst this
    obtain ⟨kk, es, ho, hk⟩ := hm
    cases hx with
    | mp g1 =>
      cases hs.ob i1 _ ho with
      | map ents clock hb hn hff hkk hdd hb1 hb2 hr =>
        refine VOk.same hg hf hs ?_ (.d (.s _)) hk
        simp [Builtin.len_, run_underlying hu, goInt, getObj, Sem.run, hb, hn]
  · exact hm.elim

/-! ### numbers, strings, bools -/

def abin (op : BinOp) (x y : Value) : Option Value :=
  match op, x, y with
  | .add, .int k a, .int k' b => if k = k' then some (.int k (k.wrap (a + b))) else none
  | .sub, .int k a, .int k' b => if k = k' then some (.int k (k.wrap (a - b))) else none
  | .mul, .int k a, .int k' b => if k = k' then some (.int k (k.wrap (a * b))) else none
  | .quo, .int k a, .int k' b => if k = k' ∧ b ≠ 0 then some (.int k (k.wrap (a.tdiv b))) else none
  | .rem, .int k a, .int k' b => if k = k' ∧ b ≠ 0 then some (.int k (a.tmod b)) else none
  | .eql, .int k a, .int k' b => if k = k' then some (.bool (decide (a = b))) else none
  | .neq, .int k a, .int k' b => if k = k' then some (.bool (decide (a ≠ b))) else none
  | .lss, .int k a, .int k' b => if k = k' then some (.bool (decide (a < b))) else none
  | .leq, .int k a, .int k' b => if k = k' then some (.bool (decide (a ≤ b))) else none
  | .gtr, .int k a, .int k' b => if k = k' then some (.bool (decide (b < a))) else none
  | .geq, .int k a, .int k' b => if k = k' then some (.bool (decide (b ≤ a))) else none
  | .add, .string a, .string b => if a.size + b.size ≤ 9223372036854775807 then some (.string (a ++ b)) else none
  | .eql, .string a, .string b => some (.bool (decide (a = b)))
  | .neq, .string a, .string b => some (.bool (decide (a ≠ b)))
  | _, _, _ => none

theorem toList_eq (a b : ByteArray) : (a.toList == b.toList) = decide (a = b) := by
  by_cases h : a = b
  · subst h; simp
  · have : a.toList ≠ b.toList := by
      intro he
      apply h
      have h2 : a.data.toList = b.data.toList := by simpa [ByteArray.toList_eq] using he
      cases a; cases b; simp_all
    simp [h, this]

theorem beq_dec (a b : Int) : (a == b) = decide (a = b) := by rw [Bool.eq_iff_iff]; simp
theorem bne_dec (a b : Int) : (a != b) = decide (a ≠ b) := by rw [Bool.eq_iff_iff]; simp
theorem abin_ok {op : BinOp} {x y r : Value} (h : abin op x y = some r) (t : TypeId) (ox oy : Operand) (P : Program) (w : World) :
    (do eqGuard op t ox oy x y; binOp op t x y : Sem Value).run P w = .ok r w := by
  have hgd : (eqGuard op t ox oy x y).run P w = .ok () w := by
    unfold abin at h
    split at h <;> first | (simp at h; done) | (rw [eqGuard_at_int]; rfl) | (rw [eqGuard_at_string]; rfl)
  rw [Sem.run_bind, hgd, Result.andThen_ok]
  unfold abin at h
  split at h
  all_goals first
    | (simp at h; done)
    | (injection h with h
       subst h
       simp [binOp, Op.stringOp, toList_eq]; done)
    | (split at h
       · rename_i hc
         injection h with h
         subst h
         first
           | (subst hc; simp only [binOp, Op.intArith, Op.intCmp, beq_dec, bne_dec, ne_eq, not_true_eq_false, if_false]; rfl)
           | (obtain ⟨rfl, hb⟩ := hc; simp [binOp, Op.intDiv, hb]; done)
           | (show (Op.stringOp .add _ _).run P w = _; exact run_string_add_sum _ _ _ hc)
       · simp at h)
end ops
end Go.Pm
