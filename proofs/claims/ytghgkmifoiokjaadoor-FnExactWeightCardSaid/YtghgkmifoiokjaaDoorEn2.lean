/- The entry: what the reading of a listed map gives, and the way from a call of the machine to the row's end. -/
import Derived.Test.YtghgkmifoiokjaaDoorEn1
import Derived.Carry
import Derived.OpenVars
import Derived.ChangeAlike
import Derived.ProofKit
import Derived.LaidMore
import Derived.OpenShut
set_option linter.unusedVariables false
set_option linter.unusedSimpArgs false
namespace Go.Pm
def litV : Lit → Value
  | .bool b => .bool b
  | .int k n => .int k n
  | .string l => .string ⟨⟨l⟩⟩
  | _ => undef
def litO {H : Type} : DataW H → Value
  | .lit l => litV l
  | _ => undef
def mapEnts {H : Type} : DataW H → List (Lit × DataW H)
  | .map l => l
  | _ => []
def litMap {H : Type} (g : List (Lit × DataW H)) : List (Value × D) := g.map fun y => (litV y.1, .s (litO y.2))
def distB : List Value → Bool
  | [] => true
  | x :: l => l.all (fun y => !keyEq x y && !keyEq y x) && distB l
def litB {H : Type} : DataW H → Bool
  | .lit (.bool _) | .lit (.int _ _) | .lit (.string _) => true
  | _ => false
theorem distB_at : ∀ {l : List Value}, distB l = true → ∀ i j (hi : i < l.length) (hj : j < l.length), keyEq l[i] l[j] = true → i = j
  | [], _, i, j, hi, _, _ => by simp at hi
  | x :: l, h, i, j, hi, hj, he => by
    simp only [distB, Bool.and_eq_true, List.all_eq_true, Bool.not_eq_true'] at h
    match i, j with
    | 0, 0 => rfl
    | 0, j + 1 => have := (h.1 (l[j]'(by simpa using hj)) (List.getElem_mem _)).1; simp at he; rw [this] at he; cases he
    | i + 1, 0 => have := (h.1 (l[i]'(by simpa using hi)) (List.getElem_mem _)).2; simp at he; rw [this] at he; cases he
    | i + 1, j + 1 => have := distB_at h.2 i j (by simpa using hi) (by simpa using hj) (by simpa using he); omega
theorem insert_perm {H : Type} (x : Lit × DataW H) : ∀ l : List (Lit × DataW H), (DataW.insert x l).Perm (x :: l)
  | [] => .refl _
  | y :: r => by
    simp only [DataW.insert]
    split
    · exact .refl _
    · exact (List.Perm.cons y (insert_perm x r)).trans (List.Perm.swap x y r)
theorem sorted_perm {H : Type} : ∀ l : List (Lit × DataW H), (l.foldr DataW.insert []).Perm l
  | [] => .refl _
  | x :: l => (insert_perm x _).trans ((sorted_perm l).cons x)
theorem key_lit {P : Program} {k : TypeId} {v : Value} {l : Lit} (hk : P.underlying k = some .string ∨ P.underlying k = some (.int .i64)) (h : keyOf P k v = some l) : v = litV l := by
  rcases hk with hk | hk <;> simp only [keyOf, hk, mapKey] at h <;> cases v <;> simp at h
  · obtain ⟨_, rfl⟩ := h; rfl
  · obtain ⟨⟨rfl, _⟩, rfl⟩ := h; rfl
theorem cells_one {v u : Value} {P : Program} {t : TypeId} (hv : v.cells.toList = [u]) (hf : v.formed P t = true) (hn : ∀ cs, v ≠ .agg cs) : v = u := by
  cases v <;> first | exact absurd rfl (hn _) | (simp [Value.formed] at hf; done) | (simpa [Value.cells] using hv)
theorem val_lit {H : Type} {en : TypeId × Value → H} {P : Program} {w : World} {base : Nat} {spare : Nat → Bool} {held : Bool} {e : TypeId} {v : Value} {fuel : Nat} {d : DataW H} {ps : List MemPlace}
    (he : P.underlying e = some .bool ∨ P.underlying e = some .string ∨ P.underlying e = some (.int .i64)) (hf : v.formed P e = true) (h : DataW.trod en P w base spare held fuel e v.cells.toList = some (d, ps)) : v = litO d := by
  have hn : ∀ cs, v ≠ .agg cs := by
    intro cs hv
    subst hv
    rcases he with he | he | he <;> simp [Value.formed, he] at hf
  cases fuel with
  | zero => simp [DataW.trod] at h
  | succ fuel =>
    rcases he with he | he | he <;> unfold DataW.trod at h <;> rw [he] at h <;>
      (split at h <;> first | (rename_i hq _; cases hq; done) | (rename_i hq; cases hq; done) | (rename_i hq _ _; cases hq; done) | (simp_all; done) | skip)
    · rename_i hc
      obtain ⟨rfl, _⟩ : _ ∧ _ := by simpa using h
      exact cells_one hc hf hn
    · rename_i hc
      split at h
      · obtain ⟨rfl, _⟩ : _ ∧ _ := by simpa using h
        exact cells_one hc hf hn
      · cases h
    · rename_i hc hq
      cases hc
      split at h
      · rename_i hk
        obtain ⟨rfl, _⟩ : _ ∧ _ := by simpa using h
        rw [cells_one hq hf hn, hk.1]; rfl
      · cases h
theorem litMap_len {H : Type} (g : List (Lit × DataW H)) : (litMap g).length = g.length := by simp [litMap]
theorem choose_fn {n : Nat} {R : Nat → Nat → Prop} (h : ∀ k, k < n → ∃ j, R k j) : ∃ π : Nat → Nat, ∀ k, k < n → R k (π k) := by
  refine ⟨fun k => if hk : k < n then (h k hk).choose else 0, fun k hk => ?_⟩
  simp only [hk, dif_pos]
  exact (h k hk).choose_spec
theorem ent_map {H : Type} {en : TypeId × Value → H} {P : Program} {w : World} {base : Nat} {spare : Nat → Bool} {held : Bool} {t k e : TypeId} {kk : KD} {fuel : Nat} {cs : List Value} {g : List (Lit × DataW H)} {ps : List MemPlace}
    (ht : P.underlying t = some (.map k e)) (hk : P.underlying k = some .string ∨ P.underlying k = some (.int .i64)) (he : P.underlying e = some .bool ∨ P.underlying e = some .string ∨ P.underlying e = some (.int .i64))
    (hf : ((litMap g).all fun y => keyFit kk y.1) = true) (hd : distB ((litMap g).map (·.1)) = true) (h : DataW.trod en P w base spare held fuel t cs = some (.map g, ps)) :
    ∃ v, cs = [v] ∧ v.oneCell' = true ∧ DRel (FW w) (.mp kk (litMap g)) v := by
  cases fuel with
  | zero => simp [DataW.trod] at h
  | succ fuel =>
    unfold DataW.trod at h
    rw [ht] at h
    split at h <;> first | (rename_i hq _; cases hq; done) | (rename_i hq; cases hq; done) | (rename_i hq _ _; cases hq; done) | (simp_all; done) | skip
    rename_i k' e' b hq
    cases hq
    refine ⟨_, rfl, rfl, ?_⟩
    split at h
    · rename_i es clock hb
      split at h
      · obtain ⟨en0, hen, hs⟩ := Option.bind_eq_some_iff.1 h
        simp only at hs
        split at hs
        · simp only [Option.some.injEq, Prod.mk.injEq, DataW.map.injEq] at hs
          obtain ⟨hg, _⟩ := hs
          have hperm : (en0.map (·.1)).Perm g := by rw [← hg]; exact (sorted_perm _).symm
          obtain ⟨h1, h2⟩ := mapM_some _ _ _ hen
          have hlen : en0.length = g.length := by simpa using hperm.length_eq
          have hes : es.size = g.length := by rw [← hlen, h1]; simp
          have hent : ∀ j (hj : j < es.size) (hj' : j < en0.length), es[j].key = litV en0[j].1.1 ∧ es[j].val = litO en0[j].1.2 := by
            intro j hj hj'
            have h3 := h2 j (by simpa using hj) hj'
            obtain ⟨key, hkey, h4⟩ := Option.bind_eq_some_iff.1 h3
            split at h4
            · rename_i hfo
              obtain ⟨y, hy, h5⟩ := Option.map_eq_some_iff.1 h4
              rw [← h5]
              simp only [Array.getElem_toList] at hkey hy hfo
              obtain ⟨yd, yp⟩ := y
              exact ⟨key_lit hk hkey, val_lit he hfo hy⟩
            · cases h4
          have hdist : ∀ i j (hi : i < g.length) (hj : j < g.length), g[i].1 = g[j].1 → i = j := by
            intro i j hi hj hij
            have hi' : i < ((litMap g).map (·.1)).length := by simpa [litMap] using hi
            have hj' : j < ((litMap g).map (·.1)).length := by simpa [litMap] using hj
            refine distB_at hd i j hi' hj' ?_
            have hfi := List.all_eq_true.1 hf ((litMap g)[i]'(by simpa [litMap] using hi)) (List.getElem_mem _)
            simp only [litMap, List.getElem_map] at hfi
            simp only [litMap, List.map_map, List.getElem_map, Function.comp, ← hij]
            revert hfi
            cases kk <;> cases hg1 : litV (g[i].1) <;> simp [keyFit, keyEq]
          have hnd : g.Pairwise (fun a b => a ≠ b) := by
            rw [List.pairwise_iff_getElem]
            intro i j hi hj hij he
            have := hdist i j hi hj (by rw [he])
            omega
          have hnd2 : (en0.map (·.1)).Pairwise (fun a b => a ≠ b) := (hperm.pairwise_iff (fun h => Ne.symm h)).2 hnd
          have hinj : ∀ i j (hi : i < en0.length) (hj : j < en0.length), en0[i].1 = en0[j].1 → i = j := by
            intro i j hi hj hij
            rw [List.pairwise_iff_getElem] at hnd2
            rcases Nat.lt_trichotomy i j with hlt | rfl | hlt
            · exact absurd (by rw [List.getElem_map, List.getElem_map]; exact hij) (hnd2 i j (by simpa using hi) (by simpa using hj) hlt)
            · rfl
            · exact absurd (by rw [List.getElem_map, List.getElem_map]; exact hij.symm) (hnd2 j i (by simpa using hj) (by simpa using hi) hlt)
          obtain ⟨π, hπ⟩ : ∃ π : Nat → Nat, ∀ k, k < g.length → ∃ (hk : k < g.length) (hj : π k < en0.length), (en0[π k]).1 = g[k] := by
            refine choose_fn (R := fun k j => ∃ (hk : k < g.length) (hj : j < en0.length), (en0[j]).1 = g[k]) fun k hk => ?_
            have hm : g[k] ∈ en0.map (·.1) := hperm.mem_iff.2 (List.getElem_mem hk)
            obtain ⟨j, hj, hj2⟩ := List.getElem_of_mem hm
            exact ⟨j, hk, by simpa using hj, by simpa using hj2⟩
          refine .mp kk (litMap g) b es clock (fun k => ((litMap g)[k]?.map fun y => match y.2 with | .s v => v | _ => undef).getD undef) π hb (by rw [litMap_len]; exact hes) (fun y hy => List.all_eq_true.1 hf y hy) ?_ ?_ ?_ ?_
          · intro i j hi hj hij
            exact distB_at hd i j (by simpa using hi) (by simpa using hj) (by simpa using hij)
          · intro i hi
            rw [litMap_len] at hi
            obtain ⟨_, hj, hj2⟩ := hπ i hi
            have hje : π i < es.size := by omega
            obtain ⟨e1, e2⟩ := hent (π i) hje hj
            rw [hj2] at e1 e2
            simp only [Array.getElem?_eq_getElem hje, Option.map_some, e1, e2, litMap, List.getElem_map, List.getElem?_map, List.getElem?_eq_getElem hi, Option.getD_some]
          · intro j hj
            have hj' : j < en0.length := by omega
            have hm : en0[j].1 ∈ g := hperm.mem_iff.1 (List.mem_map.2 ⟨_, List.getElem_mem hj', rfl⟩)
            obtain ⟨i, hi, hi2⟩ := List.getElem_of_mem hm
            obtain ⟨_, hp, hp2⟩ := hπ i hi
            exact ⟨i, by rw [litMap_len]; exact hi, hinj _ _ hp hj' (by rw [hp2, hi2])⟩
          · intro i hi
            have hi' : i < g.length := by rw [litMap_len] at hi; exact hi
            simp only [litMap, List.getElem_map, List.getElem?_map, List.getElem?_eq_getElem hi', Option.map_some, Option.getD_some]
            exact .s _
        · cases hs
      · cases h
    · cases h

open Go.ChangeShapes Go.WideShapes Go.WideElems Go.RowKit
section close
variable {H : Type} {enc : TypeId × Value → H} {P : Program} {W W' : World}
theorem trodAll_stays (hl : laidOutB P = true) (hb : Below W.heap.size W W') : ∀ {ts : List TypeId} {vs : List Value} {ds : List (DataW H)} {ps : List MemPlace}, (ts.all fun t => P.readableRec t && decide (t < P.types.size)) = true →
    (∀ x ∈ ps, x.block < W.heap.size) → DataW.TrodAll enc P W 0 (fun _ => true) true ts vs ds ps → DataW.TrodAll enc P W' 0 (fun b => decide (b < W.heap.size)) true ts vs ds ps
  | [], [], [], _, _, _, h => h
  | t :: ts, v :: vs, d :: ds, ps, ht, hlt, h => by
    obtain ⟨p, q, h1, h2, rfl⟩ := h
    simp only [List.all_cons, Bool.and_eq_true, decide_eq_true_eq] at ht
    exact ⟨p, q, Below.trod hl ht.1.1 ht.1.2 h1 hb (fun x hx => hlt x (by simp [hx])), trodAll_stays hl hb (by simpa [List.all_eq_true] using ht.2) (fun x hx => hlt x (by simp [hx])) h2, rfl⟩
  | [], _ :: _, _, _, _, _, h => h.elim
  | [], [], _ :: _, _, _, _, h => h.elim
  | _ :: _, [], _, _, _, _, h => h.elim
  | _ :: _, _ :: _, [], _, _, _, h => h.elim
/-- The end of a law's row: true came out, and no old block was written. -/
theorem post_true {F F' : FH} {η η' : Et} {σ' : St} {fn : Func} {s : ChangeSpec} {args : Array Value} {ds gs : List (DataW H)} {before : List MemPlace} {tb : TypeId} (hl : laidOutB P = true)
    (ha : (fn.params.toList.all fun t => P.readableRec t && decide (t < P.types.size)) = true) (hv : varsRowed P s.vars = true) (hr : fn.resultTypes = #[tb]) (htb : P.underlying tb = some .bool)
    (hfn : s.fn H (ds ++ gs) = { results := [.lit (.bool true)], args := ds, vars := gs }) (hW : DataW.Whole enc P fn.params.toList s.vars false W args.toList ds gs before) (hs : Step F η St.nil W F' η' σ' W') :
    s.post enc P fn false true false false W args (.bool true) W' := by
  have hb : Below W.heap.size W { W' with tape := W.tape } :=
    ⟨hs.gr.2.1, rfl, hs.gr.2.2, hs.gr.1, fun k hk => hs.fm k hk fun i o ho => by simp [St.nil] at ho⟩
  refine ChangeSpec.post_alike (W'' := { W' with tape := W.tape }) ?_ ⟨rfl, rfl, rfl⟩
  have hW' := hW
  have hlt := hW.lt
  obtain ⟨p, q, hA, hV, rfl, _, _⟩ := hW
  have hAs := trodAll_stays (H := H) (enc := enc) hl hb ha (fun x hx => hlt x (by simp [hx])) hA
  have hVs := Below.trodVars (H := H) (enc := enc) hl hb hv hV
  refine ⟨ds, gs, p ++ q, [], p, q, hW', ?_, ?_, ?_, hb.frame _, fun h => by cases h⟩
  · rw [hfn, hr]
    exact trodAll_mk1 (shut_bool htb _)
  · rw [hfn]; exact hAs
  · rw [hfn]; exact hVs
def isStructD : TypeDesc → Bool
  | .struct _ => true
  | _ => false
theorem isStruct_fs {t : TypeId} (h : (P.underlying t).map isStructD = some true) : ∃ fs, P.underlying t = some (.struct fs) := by
  cases hu : P.underlying t with
  | none => rw [hu] at h; cases h
  | some d =>
    rw [hu] at h
    cases d <;> first | exact ⟨_, rfl⟩ | (simp [isStructD] at h; done)
/-- A struct that came in. -/
theorem ent_agg {α : Type} {t : TypeId} {e : α → List D} {ok : α → Prop} {v : Value} {d : DataW H} {ps : List MemPlace} {base0 : Nat} (ht' : (P.underlying t).map isStructD = some true) (hval : Value.okWide P W .any base0 t v) (hE : Rd enc P W 0 (fun _ => true) true t e ok)
    (h : DataW.Trod enc P W 0 (fun _ => true) true t v d ps) : ∃ y, ok y ∧ ∀ η n, VRel (FW W) η n (.agg ((e y).map .d)) v := by
  obtain ⟨fs, ht⟩ := isStruct_fs ht'
  unfold Value.okWide at hval
  rw [ht] at hval
  obtain ⟨cs, rfl, _⟩ := hval
  obtain ⟨fuel, hf⟩ := h
  obtain ⟨y, h1, h2, h3⟩ := hE fuel _ _ hf
  refine ⟨y, h1, fun η n => .agg (by simpa [Value.cells] using h2.symm) fun j hj => ?_⟩
  have hj' : j < (e y).length := by simpa using hj
  have := (h3 j hj').1
  simp only [List.getElem_map]
  refine .d ?_
  simpa [Value.cells] using this
/-- What a listed variable holds. -/
theorem ent_var {n : String} {g g' : Nat} {cs : Array Value} {x : D} {v : Value} (hg : P.globalNamed n = some g) (hg' : P.globalNamed n = some g') (hv : W.var? P n = some cs) (hc : cs.toList = [v]) (ho : v.oneCell' = true) (hx : DRel (FW W) x v) :
    DRel (FW W) (.ip [x] 0) (.pointer (some ⟨g', 0, none⟩)) := by
  obtain rfl : g = g' := Option.some.inj (hg.symm.trans hg')
  unfold World.var? at hv
  rw [hg] at hv
  simp only [Option.bind_some] at hv
  split at hv
  · rename_i c E fz hh
    cases hv
    obtain ⟨l⟩ := cs
    simp only at hc
    subst hc
    refine .ip [x] 0 g 0 #[v] E fz (fun _ => v) hh ?_ ?_ ?_
    · intro j hj
      have : j = 0 := by simp at hj; omega
      subst this; rfl
    · intro j _; exact ho
    · intro j hj
      have : j = 0 := by simp at hj; omega
      subst this; exact hx
  · cases hv
end close

section rdg
variable {H : Type} {en : TypeId × Value → H} {P : Program} {w : World} {base : Nat} {spare : Nat → Bool} {held : Bool}
def RdG (en : TypeId × Value → H) (P : Program) (w : World) (base : Nat) (spare : Nat → Bool) (held : Bool) {α : Type} (o : Nat) (prs : List (Nat × TypeId)) (e : α → List D) (ok : α → Prop) : Prop :=
  ∀ fs : List Field, (fs.map fun f => (f.offset, f.type)) = prs → RdF en P w base spare held o fs e ok
theorem rdG_nil {o : Nat} : RdG en P w base spare held o [] (fun _ : Unit => []) (fun _ => True) := by
  intro fs h
  have : fs = [] := by simpa using h
  subst this
  exact rdF_nil
theorem rdG_cons {α β : Type} {o ty : Nat} {prs : List (Nat × TypeId)} {e0 : α → List D} {e1 : β → List D} {ok0 : α → Prop} {ok1 : β → Prop} (s : Nat) (h0 : Rd en P w base spare held ty e0 ok0) (hs : ∀ y, (e0 y).length = s)
    (h1 : RdG en P w base spare held (o + s) prs e1 ok1) : RdG en P w base spare held o ((o, ty) :: prs) (fun p : α × β => e0 p.1 ++ e1 p.2) (fun p => ok0 p.1 ∧ ok1 p.2) := by
  intro fs h
  match fs with
  | [] => simp at h
  | f :: fs =>
    simp only [List.map_cons, List.cons.injEq, Prod.mk.injEq] at h
    obtain ⟨⟨ho, rfl⟩, h⟩ := h
    exact rdF_cons h0 ho hs (h1 fs h)
theorem rd_structG {α : Type} {t n : Nat} {prs : List (Nat × TypeId)} {e : α → List D} {ok : α → Prop} (ht : (P.underlying t).map kindOf = some (.struct prs)) (hn : P.cellsOf t = n) (hl : ∀ y, (e y).length = n) (h : RdG en P w base spare held 0 prs e ok) :
    Rd en P w base spare held t e ok := by
  cases hu : P.underlying t with
  | none => rw [hu] at ht; cases ht
  | some d =>
    rw [hu] at ht
    cases d <;> simp only [Option.map_some, kindOf, Option.some.injEq] at ht <;> first | (cases ht; done) | skip
    rename_i fs
    simp only [KD.struct.injEq] at ht
    exact rd_struct hu hn hl (h _ ht)
end rdg
end Go.Pm
