/- The abstract machine, forty-first text: what is owned in trees, laid into one box. -/
import Derived.Test.YtdjanhhljinokaaDoorT7
import Derived.Test.YtdjanhhljinokaaDoorT5
import Derived.Lib.ItoaLen
import Derived.Lib.ItoaMem
set_option linter.unusedVariables false
set_option linter.unusedSimpArgs false
namespace Go.Pm
/-- What a cell holds: a word, or a slice of an element type whose cells are told. -/
inductive Sh where
  | w
  | im (E : TypeId) (cells : List Sh)
/-- The cells of a row that are slices, each with its value. -/
def subs : List Sh → List D → List Value → List (Sh × D × Value)
  | .w :: ss, _ :: ds, _ :: vs => subs ss ds vs
  | .im E cs :: ss, d :: ds, v :: vs => (.im E cs, d, v) :: subs ss ds vs
  | _, _, _ => []
/-- The cells of a row that are words stand there to the letter. -/
def agr : List Sh → List D → List Value → Prop
  | [], [], [] => True
  | .w :: ss, d :: ds, v :: vs => d = .s v ∧ agr ss ds vs
  | .im _ _ :: ss, _ :: ds, _ :: vs => agr ss ds vs
  | _, _, _ => False
def subss (ss : List Sh) : List (List D) → List (List Value) → List (Sh × D × Value)
  | r :: rows, v :: vs => subs ss r v ++ subss ss rows vs
  | _, _ => []
def agrs (ss : List Sh) : List (List D) → List (List Value) → Prop
  | [], [] => True
  | r :: rows, v :: vs => agr ss r v ∧ agrs ss rows vs
  | _, _ => False
theorem agr_len : ∀ {ss : List Sh} {ds : List D} {vs : List Value}, agr ss ds vs → ds.length = ss.length ∧ vs.length = ss.length
  | [], [], [], _ => ⟨rfl, rfl⟩
  | .w :: ss, d :: ds, v :: vs, h => by have := agr_len h.2; simp [this]
  | .im _ _ :: ss, d :: ds, v :: vs, h => by have := agr_len (ss := ss) h; simp [this]
  | [], [], _ :: _, h => h.elim
  | [], _ :: _, _, h => h.elim
  | .w :: _, [], _, h => h.elim
  | .w :: _, _ :: _, [], h => h.elim
  | .im _ _ :: _, [], _, h => h.elim
  | .im _ _ :: _, _ :: _, [], h => h.elim
theorem agrs_len {ss : List Sh} : ∀ {rows : List (List D)} {vs : List (List Value)}, agrs ss rows vs → vs.length = rows.length ∧ (∀ r ∈ rows, r.length = ss.length) ∧ ∀ v ∈ vs, v.length = ss.length
  | [], [], _ => ⟨rfl, by simp, by simp⟩
  | r :: rows, v :: vs, h => by
    obtain ⟨h1, h2⟩ := h
    obtain ⟨a, b, c⟩ := agrs_len h2
    obtain ⟨d, e⟩ := agr_len h1
    refine ⟨by simp [a], ?_, ?_⟩
    · intro x hx; rcases List.mem_cons.1 hx with rfl | hx; exact d; exact b x hx
    · intro x hx; rcases List.mem_cons.1 hx with rfl | hx; exact e; exact c x hx
  | [], _ :: _, h => h.elim
  | _ :: _, [], h => h.elim
def FH.non : FH := fun _ => none
def FH.join (a b : FH) : FH := fun x => match a x with | some o => some o | none => b x
/-- The trees of a list lie in these blocks, each block in one place. -/
inductive Tr : FH → List (Sh × D × Value) → Prop
  | nil : Tr FH.non []
  | s {τ : FH} {l : List (Sh × D × Value)} (v : Value) (h : Tr τ l) : Tr τ ((.w, .s v, v) :: l)
  | im0 {τ : FH} {l : List (Sh × D × Value)} (E : TypeId) (ss : List Sh) (hp : 0 < ss.length) (h : Tr τ l) : Tr τ ((.im E ss, .im [], .slice none 0 0) :: l)
  | im {τ0 : FH} {l : List (Sh × D × Value)} (E : TypeId) (ss : List Sh) (rows : List (List D)) (vs : List (List Value)) (b o cap : Nat) (c : Array Value)
      (h : Tr τ0 (subss ss rows vs ++ l)) (ha : agrs ss rows vs) (hp : 0 < ss.length) (hb : τ0 b = none) (hle : rows.length ≤ cap) (hm : cap ≤ maxLen) (hc : c.size = cap * ss.length)
      (ht : c.toList.take (rows.length * ss.length) = vs.flatten) (h1 : ∀ u ∈ vs.flatten, u.oneCell' = true) (ho : 0 < cap → o = 0) :
      Tr (τ0.with b (.cells c E (0, 0))) ((.im E ss, .im rows, .slice (some ⟨b, o, none⟩) rows.length cap) :: l)
theorem join_non (τ : FH) : FH.join FH.non τ = τ := by funext x; rfl
/-- No block is in both. -/
def Dsj (a b : FH) : Prop := ∀ x, a x = none ∨ b x = none
theorem join_with {a c : FH} {b : Nat} {o : Obj} : (a.with b o).join c = (a.join c).with b o := by
  funext x
  unfold FH.join FH.with
  by_cases h : x = b
  · simp [h]
  · simp [h]
theorem tr_split : ∀ {τ : FH} {L : List (Sh × D × Value)}, Tr τ L → ∀ l1 l2, L = l1 ++ l2 → ∃ τ1 τ2, Tr τ1 l1 ∧ Tr τ2 l2 ∧ Dsj τ1 τ2 ∧ τ = τ1.join τ2 := by
  intro τ L h
  induction h with
  | nil =>
    intro l1 l2 e
    obtain ⟨rfl, rfl⟩ := List.append_eq_nil_iff.1 e.symm
    exact ⟨_, _, .nil, .nil, fun _ => .inl rfl, rfl⟩
  | @s τ l v h ih =>
    intro l1 l2 e
    cases l1 with
    | nil => simp only [List.nil_append] at e; subst e; exact ⟨_, _, .nil, .s v h, fun _ => .inl rfl, (join_non _).symm⟩
    | cons x l1 =>
      simp only [List.cons_append, List.cons.injEq] at e
      obtain ⟨rfl, e⟩ := e
      obtain ⟨τ1, τ2, a, b, c, d⟩ := ih l1 l2 e
      exact ⟨τ1, τ2, .s v a, b, c, d⟩
  | @im0 τ l E ss hp h ih =>
    intro l1 l2 e
    cases l1 with
    | nil => simp only [List.nil_append] at e; subst e; exact ⟨_, _, .nil, .im0 E ss hp h, fun _ => .inl rfl, (join_non _).symm⟩
    | cons x l1 =>
      simp only [List.cons_append, List.cons.injEq] at e
      obtain ⟨rfl, e⟩ := e
      obtain ⟨τ1, τ2, a, b, c, d⟩ := ih l1 l2 e
      exact ⟨τ1, τ2, .im0 E ss hp a, b, c, d⟩
  | @im τ0 l E ss rows vs b o cap c h ha hp hb hle hm hc ht h1 ho ih =>
    intro l1 l2 e
    cases l1 with
    | nil => simp only [List.nil_append] at e; subst e; exact ⟨_, _, .nil, .im E ss rows vs b o cap c h ha hp hb hle hm hc ht h1 ho, fun _ => .inl rfl, (join_non _).symm⟩
    | cons x l1 =>
      simp only [List.cons_append, List.cons.injEq] at e
      obtain ⟨rfl, e⟩ := e
      obtain ⟨τ1, τ2, a, b2, c2, d⟩ := ih (subss ss rows vs ++ l1) l2 (by rw [e, List.append_assoc])
      subst d
      have hb1 : τ1 b = none := by unfold FH.join at hb; cases hx : τ1 b with | none => rfl | some o => rw [hx] at hb; cases hb
      have hb2 : τ2 b = none := by unfold FH.join at hb; rw [hb1] at hb; exact hb
      refine ⟨τ1.with b _, τ2, .im E ss rows vs b o cap c a ha hp hb1 hle hm hc ht h1 ho, b2, fun y => ?_, join_with.symm⟩
      by_cases hy : y = b
      · subst hy; exact .inr hb2
      · rcases c2 y with q | q
        · left; unfold FH.with; rw [if_neg hy]; exact q
        · exact .inr q
theorem tr_join {τ1 τ2 : FH} {l1 l2 : List (Sh × D × Value)} (h1 : Tr τ1 l1) (h2 : Tr τ2 l2) (hd : Dsj τ1 τ2) : Tr (τ1.join τ2) (l1 ++ l2) := by
  induction h1 with
  | nil => rw [join_non]; exact h2
  | s v h ih => exact .s v (ih hd)
  | im0 E ss hp h ih => exact .im0 E ss hp (ih hd)
  | @im τ0 l E ss rows vs b o cap c h ha hp hb hle hm hc ht h1 ho ih =>
    have hb2 : τ2 b = none := by
      rcases hd b with q | q
      · simp [FH.with] at q
      · exact q
    have hd0 : Dsj τ0 τ2 := fun y => by
      rcases hd y with q | q
      · left
        unfold FH.with at q
        split at q
        · cases q
        · exact q
      · exact .inr q
    have := ih hd0
    rw [List.append_assoc] at this
    rw [join_with]
    exact .im E ss rows vs b o cap c this ha hp (by unfold FH.join; rw [hb]; exact hb2) hle hm hc ht h1 ho
theorem Tr.perm {l l' : List (Sh × D × Value)} (hp : l.Perm l') : ∀ {τ : FH}, Tr τ l → Tr τ l' := by
  induction hp with
  | nil => intro τ h; exact h
  | @cons x l1 l2 _ ih =>
    intro τ h
    obtain ⟨τ1, τ2, a, b, c, rfl⟩ := tr_split h [x] l1 rfl
    exact tr_join a (ih b) c
  | swap x y l =>
    intro τ h
    obtain ⟨τ1, τ2, a, b, c, rfl⟩ := tr_split h [y] (x :: l) rfl
    obtain ⟨τ3, τ4, a2, b2, c2, rfl⟩ := tr_split b [x] l rfl
    have d13 : Dsj τ3 τ1 := fun z => by
      rcases c z with q | q
      · exact .inr q
      · left
        unfold FH.join at q
        cases hx : τ3 z with
        | none => rfl
        | some o => rw [hx] at q; cases q
    have d14 : Dsj τ1 τ4 := fun z => by
      rcases c z with q | q
      · exact .inl q
      · right
        unfold FH.join at q
        cases hx : τ3 z with
        | none => rw [hx] at q; exact q
        | some o => rw [hx] at q; cases q
    have e : τ1.join (τ3.join τ4) = τ3.join (τ1.join τ4) := by
      funext z
      unfold FH.join
      rcases d13 z with q | q <;> rw [q] <;> (try rfl)
    rw [e]
    refine tr_join (l1 := [x]) (l2 := y :: l) a2 (tr_join (l1 := [y]) (l2 := l) a b2 d14) fun z => ?_
    rcases d13 z with q | q
    · exact .inl q
    · rcases c2 z with q2 | q2
      · exact .inl q2
      · right; unfold FH.join; rw [q]; exact q2
  | trans _ _ ih1 ih2 => intro τ h; exact ih2 (ih1 h)
/-- A block of the box, as data. -/
theorem tr_data {τ F : FH} (hF : τ.le F) {L : List (Sh × D × Value)} (h : Tr τ L) : ∀ {sh : Sh} {d : D} {v : Value}, (sh, d, v) ∈ L → DRel F d v := by
  induction h with
  | nil => intro sh d v h; simp at h
  | s v h ih =>
    intro sh d u hm
    rcases List.mem_cons.1 hm with e | hm
    · simp only [Prod.mk.injEq] at e; obtain ⟨_, rfl, rfl⟩ := e; exact .s _
    · exact ih hF hm
  | im0 E ss hp h ih =>
    intro sh d u hm
    rcases List.mem_cons.1 hm with e | hm
    · simp only [Prod.mk.injEq] at e; obtain ⟨_, rfl, rfl⟩ := e; exact .im0 _ _
    · exact ih hF hm
  | @im τ0 l E ss rows vs b o cap c h ha hp hb hle hm hc ht h1 ho ih =>
    have hF0 : τ0.le F := fun x ob hx => by
      apply hF
      unfold FH.with
      by_cases e : x = b
      · subst e; rw [hb] at hx; cases hx
      · rw [if_neg e]; exact hx
    intro sh d u hmem
    rcases List.mem_cons.1 hmem with e | hmem
    · simp only [Prod.mk.injEq] at e
      obtain ⟨_, rfl, rfl⟩ := e
      have hFb : F b = some (.cells c E (0, 0)) := hF b _ (by unfold FH.with; rw [if_pos rfl])
      by_cases hc0 : 0 < cap
      · have ho := ho hc0
        subst ho
        obtain ⟨hl, hlr, hlv⟩ := agrs_len ha
        have hfl : ∀ k, k < vs.length → ∀ j, j < ss.length → vs.flatten[k * ss.length + j]? = (vs[k]?).bind (fun r => r[j]?) := by
          clear ht h1 ih h ha hl
          intro k hk j hj
          induction vs generalizing k with
          | nil => simp at hk
          | cons r vs ihv =>
            have hr : r.length = ss.length := hlv r (by simp)
            cases k with
            | zero =>
              simp only [Nat.zero_mul, Nat.zero_add, List.flatten_cons, List.getElem?_cons_zero, Option.bind_some]
              rw [List.getElem?_append_left (by omega)]
            | succ k =>
              have : (k + 1) * ss.length + j = r.length + (k * ss.length + j) := by rw [Nat.add_mul, Nat.one_mul]; omega
              simp only [List.flatten_cons, List.getElem?_cons_succ]
              rw [this, List.getElem?_append_right (by omega), Nat.add_sub_cancel_left]
              exact ihv (fun v hv => hlv v (by simp [hv])) k (by simpa using hk)
        have hlen : vs.flatten.length = rows.length * ss.length := by
          have h5 : rows.length * ss.length ≤ c.toList.length := by
            have : c.toList.length = cap * ss.length := by rw [← hc]; simp
            rw [this]; exact Nat.mul_le_mul_right _ hle
          rw [← ht, List.length_take]
          exact Nat.min_eq_left h5
        have hck : ∀ k, k < rows.length → ∀ j, j < ss.length → c[0 + k * ss.length + j]? = (vs[k]?).bind (fun r => r[j]?) := by
          intro k hk j hj
          rw [Nat.zero_add, ← hfl k (by omega) j hj, ← ht, List.getElem?_take, if_pos (row_lt hk hj), Array.getElem?_toList]
        have hsome : ∀ k, k < rows.length → ∀ j, j < ss.length → ∃ r x, vs[k]? = some r ∧ r[j]? = some x ∧ r ∈ vs ∧ x ∈ r := by
          intro k hk j hj
          have hk2 : k < vs.length := by omega
          have hr := hlv _ (List.getElem_mem hk2)
          exact ⟨vs[k], vs[k][j], List.getElem?_eq_getElem hk2, List.getElem?_eq_getElem (by omega), List.getElem_mem hk2, List.getElem_mem _⟩
        refine .im rows b 0 cap ss.length c E (0, 0) (fun k j => ((vs[k]?).bind (fun r => r[j]?)).getD undef) hFb hle hlr ?_ ?_ ?_
        · intro k hk j hj
          obtain ⟨r, x, e1, e2, _⟩ := hsome k hk j hj
          rw [hck k hk j hj, e1]
          simp [e2]
        · intro k hk j hj
          obtain ⟨r, x, e1, e2, e3, e4⟩ := hsome k hk j hj
          rw [e1]
          simp only [Option.bind_some, e2, Option.getD_some]
          exact h1 x (List.mem_flatten.2 ⟨r, e3, e4⟩)
        · -- the cells of a row
          have cell : ∀ (ss' : List Sh) (ds : List D) (us : List Value), agr ss' ds us → (∀ y ∈ subs ss' ds us, DRel F y.2.1 y.2.2) → ∀ j (hj : j < ds.length), DRel F ds[j] ((us[j]?).getD undef) := by
            intro ss'
            induction ss' with
            | nil => intro ds us hA _ j hj; cases ds with | nil => simp at hj | cons => cases us <;> exact hA.elim
            | cons s ss' ih2 =>
              intro ds us hA hS j hj
              cases ds with
              | nil => simp at hj
              | cons d ds =>
                cases us with
                | nil => cases s <;> exact hA.elim
                | cons u us =>
                  cases s with
                  | w =>
                    cases j with
                    | zero => simp only [List.getElem_cons_zero, List.getElem?_cons_zero, Option.getD_some]; rw [hA.1]; exact .s _
                    | succ j => simp only [List.getElem_cons_succ, List.getElem?_cons_succ]; exact ih2 ds us hA.2 hS j (by simpa using hj)
                  | im E' cs =>
                    cases j with
                    | zero => simp only [List.getElem_cons_zero, List.getElem?_cons_zero, Option.getD_some]; exact hS (.im E' cs, d, u) (by simp [subs])
                    | succ j => simp only [List.getElem_cons_succ, List.getElem?_cons_succ]; exact ih2 ds us hA (fun y hy => hS y (by simp [subs, hy])) j (by simpa using hj)
          have rws : ∀ (rows : List (List D)) (vs : List (List Value)), agrs ss rows vs → (∀ y ∈ subss ss rows vs, DRel F y.2.1 y.2.2) → ∀ k (hk : k < rows.length) j (hj : j < (rows[k]).length), DRel F ((rows[k])[j]) (((vs[k]?).bind (fun r => r[j]?)).getD undef) := by
            intro rows
            induction rows with
            | nil => intro vs _ _ k hk; simp at hk
            | cons r rows ih2 =>
              intro vs hA hS k hk j hj
              cases vs with
              | nil => exact hA.elim
              | cons u vs =>
                cases k with
                | zero =>
                  simp only [List.getElem_cons_zero, List.getElem?_cons_zero, Option.bind_some]
                  exact cell ss r u hA.1 (fun y hy => hS y (by simp [subss, hy])) j (by simpa using hj)
                | succ k =>
                  simp only [List.getElem_cons_succ, List.getElem?_cons_succ]
                  exact ih2 vs hA.2 (fun y hy => hS y (by simp [subss, hy])) k (by simpa using hk) j (by simpa using hj)
          exact rws rows vs ha fun y hy => ih (sh := y.1) (d := y.2.1) (v := y.2.2) hF0 (List.mem_append_left _ hy)
      · have : rows = [] := List.eq_nil_of_length_eq_zero (by omega)
        subst this
        exact .im0 _ _
    · exact ih (sh := sh) hF0 (List.mem_append_right _ hmem)
end Go.Pm
/- The abstract machine, forty-second text: calls that work on a box; a row becomes a tree of the box, a tree is opened and written. -/
set_option linter.unusedVariables false
set_option linter.unusedSimpArgs false
namespace Go.Pm
theorem low0 {F : FH} {η η' : Et} {n n' : Nat} {x : AV} {v : Value} (h : VRel F η n x v) (hl : low 0 x = true) : VRel F η' n' x v :=
  (low_rel h hl).mono F.le_refl (fun i hi => absurd hi (Nat.not_lt_zero i)) (Nat.zero_le _)
def ex1 (v : Value) : AV := .d (.s v)
def exR (vs : List (List Value)) : List (List AV) := vs.map fun r => r.map ex1
theorem SRel.box {F : FH} {η η' : Et} {σ : St} {w : World} (hs : SRel F η σ w) {i : Nat} {τ : FH} (hi : σ.obj i = some (.box τ)) : SRel F η' (stL [some (.box τ)]) w := by
  have only : ∀ j o, (stL [some (AO.box τ)]).obj j = some o → j = 0 ∧ o = .box τ := fun j o h => by
    cases j with
    | zero => exact ⟨rfl, (Option.some.inj h).symm⟩
    | succ j => simp [stL] at h
  refine ⟨fun j o h => ?_, fun j o h => ?_, fun j k oj ok b hj hk _ _ => ?_, fun j o b h hb => ?_⟩
  · obtain ⟨rfl, _⟩ := only j o h; exact Nat.zero_lt_one
  · obtain ⟨rfl, rfl⟩ := only j o h
    have := hs.ob i _ hi
    cases this with
    | box hb => exact .box hb
  · rw [(only j oj hj).1, (only k ok hk).1]
  · obtain ⟨rfl, rfl⟩ := only j o h
    exact hs.fr i _ b hi hb
/-- A call that works on a box. -/
def BFun (X : Cfg) (f : FuncId) (args : List AV) (τ : FH) (K : AEnd → FH → Prop) : Prop :=
  lows 0 args = true ∧ AFun X f args (stL [some (.box τ)]) fun E σ' => ∃ τ', K E τ' ∧ σ'.obj 0 = some (.box τ') ∧ ∃ r, E = .ret r ∧ low 0 r = true
theorem BFun.at {X : Cfg} {f : FuncId} {args : List AV} {τ : FH} {K : AEnd → FH → Prop} (h : BFun X f args τ K) {σ : St} {i : Nat} (hi : σ.obj i = some (.box τ)) :
    AFun X f args σ fun E σ' => ∃ τ', K E τ' ∧ σ' = σ.set i (.box τ') := by
  obtain ⟨hl, hc, h⟩ := h
  refine ⟨hc, fun F η w vals hg hf hs hn hv => ?_⟩
  refine (h F η w vals hg hf (hs.box (η' := η) hi) hn fun j hj => low0 (hv j hj) (lows_at hl j hj)).mono ?_
  rintro e w' ⟨F', η', σ1, E, st, hf', hs1, he, τ', hK, hb, r, rfl, hr⟩
  have hown : ∀ {b : Nat}, (∃ j oj, (stL [some (AO.box τ)]).obj j = some oj ∧ Owns η j oj b) → Owns η i (.box τ) b := by
    rintro b ⟨j, oj, h1, h2⟩
    cases j with
    | zero => rw [← Option.some.inj h1] at h2; exact h2
    | succ j => simp [stL] at h1
  have hfm : ∀ b, b < w.heap.size → τ b = none → w'.heap[b]? = w.heap[b]? := fun b hb hno => st.fm b hb fun j oj h1 h2 => by
    have := hown ⟨j, oj, h1, h2⟩
    exact this hno
  have hoth : ∀ j oj b, j ≠ i → σ.obj j = some oj → Owns η j oj b → τ b = none := fun j oj b hji hj hb2 => by
    cases hx : τ b with
    | none => rfl
    | some o => exact absurd (hs.ap j i oj _ b hj hi hb2 (show τ b ≠ none by rw [hx]; simp)) hji
  have hkeep : ∀ j oj, j ≠ i → σ.obj j = some oj → ORel F' η σ.next w' j oj := fun j oj hji hj =>
    (hs.ob j oj hj).mono (hs.lt j oj hj) st.fh (Et.agree_refl _ _) (Nat.le_refl _) fun b hb2 => hfm b ((hs.ob j oj hj).own_lt hb2) (hoth j oj b hji hj hb2)
  have hob : ∀ j o, (σ.set i (.box τ')).obj j = some o → (j = i ∧ o = .box τ') ∨ (j ≠ i ∧ σ.obj j = some o) := fun j o h => by
    rw [St.obj_set] at h
    by_cases e : j = i
    · rw [if_pos e] at h; exact .inl ⟨e, (Option.some.inj h).symm⟩
    · rw [if_neg e] at h; exact .inr ⟨e, h⟩
  have hbx : ∀ b, b < w.heap.size → τ' b ≠ none → τ b ≠ none := fun b hlt hb2 => by
    have := st.nw 0 _ b hb (show Owns η' 0 (.box τ') b from hb2) hlt
    exact hown this
  have hlt1 : ∀ b, τ' b ≠ none → b < w'.heap.size := fun b hb2 => (hs1.ob 0 _ hb).own_lt (show Owns η' 0 (.box τ') b from hb2)
  refine ⟨F', η, σ.set i (.box τ'), .ret r, ⟨st.fh, Et.agree_refl _ _, Nat.le_refl _, st.gr, ?_, ?_, ?_⟩, hf', ⟨?_, ?_, ?_, ?_⟩, ?_, τ', hK, rfl⟩
  · intro b hlt hno
    refine hfm b hlt ?_
    cases hx : τ b with
    | none => rfl
    | some o => exact absurd (show Owns η i (.box τ) b from (show τ b ≠ none by rw [hx]; simp)) (hno i _ hi)
  · intro j o b hj hb2 hlt
    rcases hob j o hj with ⟨rfl, rfl⟩ | ⟨hji, hj⟩
    · exact ⟨_, _, hi, hbx b hlt hb2⟩
    · exact ⟨j, o, hj, hb2⟩
  · intro b o hb2 hlt
    rcases st.nf b o hb2 hlt with h1 | h1
    · exact .inl h1
    · exact .inr ⟨i, _, hi, hown h1⟩
  · intro j o hj
    rcases hob j o hj with ⟨rfl, rfl⟩ | ⟨hji, hj⟩
    · exact hs.lt _ _ hi
    · exact hs.lt _ _ hj
  · intro j o hj
    rcases hob j o hj with ⟨rfl, rfl⟩ | ⟨hji, hj⟩
    · have := hs1.ob 0 _ hb
      cases this with
      | box hx => exact .box hx
    · exact hkeep j o hji hj
  · intro j k oj ok b hj hk hbj hbk
    rcases hob j oj hj with ⟨ej, rfl⟩ | ⟨hji, hj'⟩ <;> rcases hob k ok hk with ⟨ek, rfl⟩ | ⟨hki, hk'⟩
    · rw [ej, ek]
    · exact absurd (hs.ap _ _ _ _ b hk' hi hbk (hbx b ((hs.ob k ok hk').own_lt hbk) hbj)) hki
    · exact absurd (hs.ap _ _ _ _ b hj' hi hbj (hbx b ((hs.ob j oj hj').own_lt hbj) hbk)) hji
    · exact hs.ap j k oj ok b hj' hk' hbj hbk
  · intro j o b hj hb2
    rcases hob j o hj with ⟨rfl, rfl⟩ | ⟨hji, hj⟩
    · exact hs1.fr 0 _ b hb hb2
    · cases hx : F' b with
      | none => rfl
      | some ob =>
        exfalso
        rcases st.nf b ob hx ((hs.ob j o hj).own_lt hb2) with h1 | h1
        · rw [hs.fr j o b hj hb2] at h1; cases h1
        · exact hji (hs.ap j i o _ b hj hi hb2 (hown h1))
  · cases e with
    | returned v => exact low0 (show VRel F' η' σ1.next r v from he) hr
    | panicked c => exact he.elim
    | outgrown => exact he.elim
/-- A new box. -/
theorem SRel.newbox {F : FH} {η : Et} {σ : St} {w : World} (hs : SRel F η σ w) : SRel F η (σ.alloc (.box FH.non)) w := by
  have hob : ∀ j o, (σ.alloc (.box FH.non)).obj j = some o → (j = σ.next ∧ o = .box FH.non) ∨ (σ.obj j = some o) := fun j o h => by
    rw [St.obj_alloc] at h
    by_cases e : j = σ.next
    · rw [if_pos e] at h; exact .inl ⟨e, (Option.some.inj h).symm⟩
    · rw [if_neg e] at h; exact .inr h
  refine ⟨fun j o h => ?_, fun j o h => ?_, fun j k oj ok b hj hk h1 h2 => ?_, fun j o b h hb => ?_⟩
  · rw [St.next_alloc]
    rcases hob j o h with ⟨rfl, _⟩ | h
    · exact Nat.lt_succ_self _
    · exact Nat.lt_succ_of_lt (hs.lt j o h)
  · rcases hob j o h with ⟨rfl, rfl⟩ | h
    · exact .box fun b o h => by cases h
    · exact (hs.ob j o h).mono (hs.lt j o h) F.le_refl (Et.agree_refl _ _) (Nat.le_succ _) fun _ _ => rfl
  · rcases hob j oj hj with ⟨rfl, rfl⟩ | hj
    · exact absurd rfl h1
    · rcases hob k ok hk with ⟨rfl, rfl⟩ | hk
      · exact absurd rfl h2
      · exact hs.ap j k oj ok b hj hk h1 h2
  · rcases hob j o h with ⟨rfl, rfl⟩ | h
    · exact absurd rfl hb
    · exact hs.fr j o b h hb
theorem Step.newbox {F : FH} {η : Et} {σ : St} {w : World} : Step F η σ w F η (σ.alloc (.box FH.non)) w := by
  refine ⟨F.le_refl, Et.agree_refl _ _, Nat.le_succ _, .refl _, fun _ _ _ => rfl, fun j o b h hb _ => ?_, fun _ _ h _ => .inl h⟩
  rw [St.obj_alloc] at h
  by_cases e : j = σ.next
  · rw [if_pos e] at h; cases h; exact absurd rfl hb
  · rw [if_neg e] at h; exact ⟨j, o, h, hb⟩
theorem BFun.new {X : Cfg} {f : FuncId} {args : List AV} {K : AEnd → FH → Prop} (h : BFun X f args FH.non K) (σ : St) :
    AFun X f args σ fun E σ' => ∃ τ', K E τ' ∧ σ' = (σ.alloc (.box FH.non)).set σ.next (.box τ') := by
  have h2 := h.at (σ := σ.alloc (.box FH.non)) (i := σ.next) (by rw [St.obj_alloc, if_pos rfl])
  refine ⟨h2.1, fun F η w vals hg hf hs hn hv => ?_⟩
  refine (h2.2 F η w vals hg hf hs.newbox hn fun j hj => (hv j hj).mono F.le_refl (Et.agree_refl _ _) (Nat.le_succ _)).mono ?_
  rintro e w' ⟨F', η', σ', E, st, rest⟩
  exact ⟨F', η', σ', E, Step.newbox.trans st, rest⟩
/-- The row's values, one behind the other. -/
theorem row_vals {F : FH} {η : Et} {n : Nat} {w : World} {i v E sz : Nat} {vs : List (List Value)} (h : ORel F η n w i (.row v E sz (exR vs))) :
    (∀ u ∈ vs.flatten, u.oneCell' = true) ∧ (∀ r ∈ vs, r.length = sz) ∧ 0 < sz ∧ w.ownsRow 0 E sz ((η.hdr v).val vs.length) vs.length vs.flatten := by
  cases h with
  | row xs hv hs hp ho hsz h1 h =>
    have hsz' : ∀ r ∈ vs, r.length = sz := fun r hr => by
      have := hsz (r.map ex1) (List.mem_map.2 ⟨r, hr, rfl⟩)
      simpa using this
    have hl : (exR vs).length = vs.length := by simp [exR]
    rw [hl] at ho
    have hx : xs = vs.flatten := by
      have hlen : xs.length = vs.length * sz := ho.1
      have hfl : ∀ (vs : List (List Value)), (∀ r ∈ vs, r.length = sz) → ∀ xs : List Value, xs.length = vs.length * sz → (∀ k (hk : k < vs.length) j (hj : j < (vs[k]).length), xs.getD (k * sz + j) undef = (vs[k])[j]) → xs = vs.flatten := by
        intro vs
        induction vs with
        | nil => intro _ xs hl _; simp at hl; simp [hl]
        | cons r vs ih =>
          intro hr xs hl he
          have hrl := hr r (by simp)
          have hsp : xs = xs.take sz ++ xs.drop sz := (List.take_append_drop _ _).symm
          have hl' : xs.length = vs.length * sz + sz := by rw [hl, List.length_cons, Nat.add_mul, Nat.one_mul]
          have h1 : xs.take sz = r := by
            apply List.ext_getElem
            · rw [List.length_take, hrl]; omega
            · intro j h1 h2
              have := he 0 (by simp) j (by simpa using h2)
              simp only [Nat.zero_mul, Nat.zero_add, List.getElem_cons_zero] at this
              rw [← this, List.getElem_take]
              have : j < xs.length := by omega
              simp [List.getD, this]
          have h2 : xs.drop sz = vs.flatten := by
            refine ih (fun r hr' => hr r (by simp [hr'])) _ (by rw [List.length_drop]; omega) fun k hk j hj => ?_
            have := he (k + 1) (by simpa using hk) j (by simpa using hj)
            simp only [List.getElem_cons_succ] at this
            rw [← this]
            simp only [List.getD, List.getElem?_drop]
            congr 2
            rw [Nat.add_mul, Nat.one_mul]; omega
          rw [hsp, h1, h2, List.flatten_cons]
      refine hfl vs hsz' xs hlen fun k hk j hj => ?_
      have := h k (by rw [hl]; exact hk) j (by simpa [exR] using hj)
      have e : ((exR vs)[k]'(by rw [hl]; exact hk))[j]'(by simpa [exR] using hj) = ex1 ((vs[k])[j]) := by simp [exR]
      rw [e] at this
      exact this.s_inv
    subst hx
    exact ⟨h1, hsz', hp, ho⟩
/-- A row whose slices lie in the box becomes a tree of the box. -/
theorem close_tr {F : FH} {η : Et} {σ : St} {w : World} (hs : SRel F η σ w) {i j v E : Nat} {ss : List Sh} {rows : List (List D)} {vs : List (List Value)} {l : List (Sh × D × Value)} {τ : FH}
    (hi : σ.obj i = some (.box τ)) (hj : σ.obj j = some (.row v E ss.length (exR vs))) (hT : Tr τ (subss ss rows vs ++ l)) (ha : agrs ss rows vs) {u : Value} (hu : VRel F η σ.next (.sl j v 0 rows.length) u) :
    ∃ τ', Tr τ' ((.im E ss, .im rows, u) :: l) ∧ (∀ b o, τ' b = some o → w.heap[b]? = some o) ∧ ∀ b, τ' b ≠ none ↔ τ b ≠ none ∨ Owns η j (.row v E ss.length (exR vs)) b := by
  have hne : i ≠ j := fun e => by rw [e, hj] at hi; cases hi
  obtain ⟨h1, h2, hp, ho⟩ := row_vals (hs.ob j _ hj)
  obtain ⟨hl, hlr, _⟩ := agrs_len ha
  have hτ : ∀ b o, τ b = some o → w.heap[b]? = some o := by
    have := hs.ob i _ hi
    cases this with | box h => exact h
  generalize hmm : rows.length = m at hu
  cases hu with
  | @sl _ _ _ _ b cap sz off q1 q2 hh hle hc hoff =>
    subst hmm
    obtain ⟨cur, hg, hn1, hcap1, hsz1, htk⟩ := own_row_blk ho (b := b) (by rw [hh])
    have hsz : sz = ss.length := by
      have := hs.ob j _ hj
      cases this with | row xs _ hs' => rw [hh] at hs'; exact hs'
    rw [hh] at hn1 hcap1 hsz1
    simp only at hn1 hcap1 hsz1
    have hb : τ b = none := by
      cases hx : τ b with
      | none => rfl
      | some o => exact absurd (hs.ap i j _ _ b hi hj (show τ b ≠ none by rw [hx]; simp) (by simp [Owns, own, hh])) hne
    refine ⟨τ.with b (.cells cur E (0, 0)), ?_, ?_, ?_⟩
    · have := Tr.im E ss rows vs b off cap cur hT ha hp hb hc hcap1 hsz1 (by rw [← hl]; exact htk) h1 (fun h0 => by have := hoff h0; simpa using this)
      simpa using this
    · intro b1 o1 hx
      unfold FH.with at hx
      by_cases e : b1 = b
      · subst e; rw [if_pos rfl] at hx; rw [← Option.some.inj hx]; exact hg
      · rw [if_neg e] at hx; exact hτ b1 o1 hx
    · intro b1
      unfold FH.with
      simp only [Owns, own, hh, Option.some.injEq]
      by_cases e : b1 = b
      · simp [e]
      · simp only [if_neg e]
        constructor
        · exact .inl
        · rintro (h | h)
          · exact h
          · exact absurd h.symm e
  | @sl0 _ _ cap sz q1 q2 hh =>
    have hl0 : rows.length = 0 := by have := own_row_nil ho (by rw [hh]); omega
    have : rows = [] := List.eq_nil_of_length_eq_zero hl0
    subst this
    have : vs = [] := List.eq_nil_of_length_eq_zero (by simpa using hl)
    subst this
    refine ⟨τ, .im0 E ss hp (by simpa [subss] using hT), hτ, fun b => ?_⟩
    simp [Owns, own, hh]
end Go.Pm
/- The abstract machine, forty-third text: calls on a box: their ends as trees; a tree that is opened, written and closed. -/
set_option linter.unusedVariables false
set_option linter.unusedSimpArgs false
namespace Go.Pm
/-- The end of a call is told in another state, that owns no more. -/
theorem AFun.conv {X : Cfg} {f : FuncId} {args : List AV} {σ : St} {K K2 : AEnd → St → Prop} (h : AFun X f args σ K)
    (hk : ∀ E σ1, K E σ1 → ∀ (F : FH) (η : Et) (w : World) (e : Ending), SRel F η σ1 w → EndRel F η σ1.next E e → σ.next ≤ σ1.next →
      ∃ σ2 E2, K2 E2 σ2 ∧ SRel F η σ2 w ∧ EndRel F η σ2.next E2 e ∧ σ.next ≤ σ2.next ∧ ∀ i o b, σ2.obj i = some o → Owns η i o b → ∃ j oj, σ1.obj j = some oj ∧ Owns η j oj b) : AFun X f args σ K2 := by
  refine ⟨h.1, fun F η w vals hg hf hs hn hv => (h.2 F η w vals hg hf hs hn hv).mono ?_⟩
  rintro e w' ⟨F', η', σ1, E, st, hf', hs1, he, hK⟩
  obtain ⟨σ2, E2, a, b, c, d, g⟩ := hk E σ1 hK F' η' w' e hs1 he st.nx
  refine ⟨F', η', σ2, E2, ⟨st.fh, st.et, d, st.gr, st.fm, fun i o b hi hb hlt => ?_, st.nf⟩, hf', b, c, a⟩
  obtain ⟨j, oj, h1, h2⟩ := g i o b hi hb
  exact st.nw j oj b h1 h2 hlt
def boxSt (τ : FH) (n : Nat) : St := ⟨fun q => if q = 0 then some (.box τ) else none, n⟩
theorem boxSt_srel {F : FH} {η : Et} {w : World} {τ : FH} {n : Nat} (hn : 0 < n) (h1 : ∀ b o, τ b = some o → w.heap[b]? = some o) (h2 : ∀ b, τ b ≠ none → F b = none) : SRel F η (boxSt τ n) w := by
  have only : ∀ j o, (boxSt τ n).obj j = some o → j = 0 ∧ o = .box τ := fun j o h => by
    simp only [boxSt] at h
    by_cases e : j = 0
    · rw [if_pos e] at h; exact ⟨e, (Option.some.inj h).symm⟩
    · rw [if_neg e] at h; cases h
  refine ⟨fun j o h => ?_, fun j o h => ?_, fun j k oj ok b hj hk _ _ => ?_, fun j o b h hb => ?_⟩
  · rw [(only j o h).1]; exact hn
  · rw [(only j o h).2]; exact .box h1
  · rw [(only j oj hj).1, (only k ok hk).1]
  · rw [(only j o h).2] at hb; exact h2 b hb
/-- A call gives a row, whose slices lie in the box. -/
theorem BFun.row {X : Cfg} {f : FuncId} {args : List AV} {τ : FH} {E : TypeId} {ss : List Sh} {rows : List (List D)} {l : List (Sh × D × Value)} (hl : lows 0 args = true)
    (h : AFun X f args (stL [some (.box τ)]) fun A σ' => ∃ τ' j v vs, A = .ret (.sl j v 0 rows.length) ∧ σ'.obj 0 = some (.box τ') ∧ σ'.obj j = some (.row v E ss.length (exR vs)) ∧ agrs ss rows vs ∧ Tr τ' (subss ss rows vs ++ l)) :
    BFun X f args τ fun A τ' => ∃ u, A = .ret (.d (.s u)) ∧ Tr τ' ((.im E ss, .im rows, u) :: l) := by
  refine ⟨hl, h.conv ?_⟩
  rintro A σ1 ⟨τ', j, v, vs, rfl, h0, hj, ha, hT⟩ F η w e hs he hn
  cases e with
  | panicked c => exact he.elim
  | outgrown => exact he.elim
  | returned u =>
    obtain ⟨τ2, h1, h2, h3⟩ := close_tr hs h0 hj hT ha (show VRel F η σ1.next (.sl j v 0 rows.length) u from he)
    refine ⟨boxSt τ2 σ1.next, .ret (.d (.s u)), ⟨τ2, ⟨u, rfl, h1⟩, rfl, _, rfl, rfl⟩, boxSt_srel (Nat.lt_of_lt_of_le Nat.zero_lt_one hn) h2 fun b hb => ?_, .d (.s u), hn, fun i o b hi hb => ?_⟩
    · rcases (h3 b).1 hb with q | q
      · exact hs.fr 0 _ b h0 q
      · exact hs.fr j _ b hj q
    · simp only [boxSt] at hi
      by_cases e : i = 0
      · rw [if_pos e] at hi
        rw [← Option.some.inj hi] at hb
        rcases (h3 b).1 hb with q | q
        · exact ⟨0, _, h0, q⟩
        · exact ⟨j, _, hj, q⟩
      · rw [if_neg e] at hi; cases hi
/-- A call gives words alone, or what it was given. -/
theorem BFun.words {X : Cfg} {f : FuncId} {args : List AV} {τ : FH} {K : AEnd → FH → Prop} (hl : lows 0 args = true)
    (h : AFun X f args (stL [some (.box τ)]) fun A σ' => ∃ τ', K A τ' ∧ σ'.obj 0 = some (.box τ') ∧ ∃ r, A = .ret r ∧ low 0 r = true) : BFun X f args τ K := ⟨hl, h⟩
theorem exR_len (vs : List (List Value)) : (exR vs).length = vs.length := by simp [exR]
/-- A tree is opened into a row. -/
theorem open_tr {F : FH} {η : Et} {w : World} {E : TypeId} {ss : List Sh} {rows : List (List D)} {l : List (Sh × D × Value)} {τ : FH} {u : Value} (hs : SRel F η (stL [some (.box τ)]) w) (hT : Tr τ ((.im E ss, .im rows, u) :: l)) :
    ∃ vs τ0 η', agrs ss rows vs ∧ Tr τ0 (subss ss rows vs ++ l) ∧ SRel F η' (stL [some (.box τ0), some (.row 1 E ss.length (exR vs))]) w ∧
      Step F η (stL [some (.box τ)]) w F η' (stL [some (.box τ0), some (.row 1 E ss.length (exR vs))]) w ∧ VRel F η' 2 (.sl 1 1 0 rows.length) u := by
  have h0 : (stL [some (AO.box τ)]).obj 0 = some (.box τ) := rfl
  have hτ : ∀ b o, τ b = some o → w.heap[b]? = some o := by
    have := hs.ob 0 _ h0
    cases this with | box h => exact h
  have hfr : ∀ b, τ b ≠ none → F b = none := fun b hb => hs.fr 0 _ b h0 hb
  -- what is common to both
  have mk : ∀ (vs : List (List Value)) (τ0 : FH) (hd : Hd), hd.sz = ss.length → 0 < ss.length → (∀ r ∈ vs, r.length = ss.length) → w.ownsRow 0 E ss.length (hd.val vs.length) vs.length vs.flatten → (∀ x ∈ vs.flatten, x.oneCell' = true) →
      (∀ b o, τ0 b = some o → τ b = some o) → (∀ b, hd.blk = some b → τ b ≠ none ∧ τ0 b = none) →
      SRel F (η.withHdr 1 hd) (stL [some (.box τ0), some (.row 1 E ss.length (exR vs))]) w ∧ Step F η (stL [some (.box τ)]) w F (η.withHdr 1 hd) (stL [some (.box τ0), some (.row 1 E ss.length (exR vs))]) w := by
    intro vs τ0 hd q1 q2 q3 q4 q5 q6 q7
    have hh : (η.withHdr 1 hd).hdr 1 = hd := by simp [Et.withHdr]
    have only : ∀ j o, (stL [some (AO.box τ0), some (AO.row 1 E ss.length (exR vs))]).obj j = some o → (j = 0 ∧ o = .box τ0) ∨ (j = 1 ∧ o = .row 1 E ss.length (exR vs)) := fun j o h => by
      match j, h with
      | 0, h => exact .inl ⟨rfl, (Option.some.inj h).symm⟩
      | 1, h => exact .inr ⟨rfl, (Option.some.inj h).symm⟩
      | j + 2, h => simp [stL] at h
    have ow0 : ∀ b, Owns (η.withHdr 1 hd) 0 (.box τ0) b → τ b ≠ none := fun b hb => by
      cases hx : τ0 b with
      | none => exact absurd hx hb
      | some o => rw [q6 b o hx]; simp
    have ow1 : ∀ b, Owns (η.withHdr 1 hd) 1 (.row 1 E ss.length (exR vs)) b → τ b ≠ none ∧ τ0 b = none := fun b hb => by
      simp only [Owns, own, hh] at hb
      exact q7 b hb
    refine ⟨⟨fun j o h => ?_, fun j o h => ?_, fun j k oj ok b hj hk h1 h2 => ?_, fun j o b h hb => ?_⟩, ⟨F.le_refl, fun i hi => ?_, by simp [stL], .refl _, fun _ _ _ => rfl, fun j o b h hb _ => ?_, fun _ _ h _ => .inl h⟩⟩
    · rcases only j o h with ⟨rfl, _⟩ | ⟨rfl, _⟩ <;> simp [stL]
    · rcases only j o h with ⟨rfl, rfl⟩ | ⟨rfl, rfl⟩
      · exact .box fun b o hb => hτ b o (q6 b o hb)
      · refine .row vs.flatten (by simp [stL]) (by rw [hh]; exact q1) q2 (by rw [hh, exR_len]; exact q4) ?_ q5 ?_
        · intro r hr
          obtain ⟨r', h1, rfl⟩ := List.mem_map.1 hr
          rw [List.length_map]; exact q3 r' h1
        · intro k hk j hj
          have hk' : k < vs.length := by rwa [exR_len] at hk
          have e : (exR vs)[k] = (vs[k]).map ex1 := by simp [exR]
          have hj' : j < (vs[k]).length := by rw [e, List.length_map] at hj; exact hj
          have e2 : ((exR vs)[k])[j] = ex1 ((vs[k])[j]) := by simp [exR]
          rw [e2]
          have e3 : vs.flatten.getD (k * ss.length + j) undef = (vs[k])[j] := by
            have hfl : ∀ (vs : List (List Value)), (∀ r ∈ vs, r.length = ss.length) → ∀ k (hk : k < vs.length) j (hj : j < (vs[k]).length), vs.flatten.getD (k * ss.length + j) undef = (vs[k])[j] := by
              intro vs
              induction vs with
              | nil => intro _ k hk; simp at hk
              | cons r vs ih =>
                intro hr k hk j hj
                have hrl := hr r (by simp)
                cases k with
                | zero =>
                  simp only [List.getElem_cons_zero] at hj ⊢
                  simp only [Nat.zero_mul, Nat.zero_add, List.flatten_cons, List.getD]
                  rw [List.getElem?_append_left hj, List.getElem?_eq_getElem hj]; rfl
                | succ k =>
                  simp only [List.getElem_cons_succ] at hj ⊢
                  rw [← ih (fun r h => hr r (by simp [h])) k (by simpa using hk) j hj]
                  have : (k + 1) * ss.length + j = r.length + (k * ss.length + j) := by rw [Nat.add_mul, Nat.one_mul]; omega
                  simp only [List.flatten_cons, List.getD]
                  rw [this, List.getElem?_append_right (by omega), Nat.add_sub_cancel_left]
            exact hfl vs q3 k hk' j hj'
          rw [e3]; exact .d (.s _)
    · rcases only j oj hj with ⟨ej, rfl⟩ | ⟨ej, rfl⟩ <;> rcases only k ok hk with ⟨ek, rfl⟩ | ⟨ek, rfl⟩
      · rw [ej, ek]
      · subst ej; subst ek; exact absurd (ow1 b h2).2 h1
      · subst ej; subst ek; exact absurd (ow1 b h1).2 h2
      · rw [ej, ek]
    · rcases only j o h with ⟨rfl, rfl⟩ | ⟨rfl, rfl⟩
      · exact hfr b (ow0 b hb)
      · exact hfr b (ow1 b hb).1
    · have : i = 0 := by simp [stL] at hi; exact hi
      subst this
      exact ⟨rfl, by simp [Et.withHdr]⟩
    · rcases only j o h with ⟨rfl, rfl⟩ | ⟨rfl, rfl⟩
      · exact ⟨0, _, h0, ow0 b hb⟩
      · exact ⟨0, _, h0, (ow1 b hb).1⟩
  cases hT with
  | im0 E ss hp h =>
    obtain ⟨a, b⟩ := mk [] τ ⟨none, 0, ss.length⟩ rfl hp (by simp) (World.ownsRow_nil w 0 E ss.length) (by simp) (fun _ _ h => h) (fun b hb => by cases hb)
    exact ⟨[], τ, _, trivial, by simpa [subss] using h, a, b, .sl0 (by decide) (by decide) (cap := 0) (sz := ss.length) (by simp [Et.withHdr])⟩
  | @im τ0 _ E ss rows vs b o cap c h ha hp hb hle hm hc ht h1 ho =>
    obtain ⟨hl, hlr, hlv⟩ := agrs_len ha
    have hwb : w.heap[b]? = some (.cells c E (0, 0)) := hτ b _ (by unfold FH.with; rw [if_pos rfl])
    obtain ⟨a, b2⟩ := mk vs τ0 ⟨some b, cap, ss.length⟩ rfl hp hlv ⟨by
        rw [← ht, List.length_take, hl]
        have : c.toList.length = cap * ss.length := by rw [← hc]; simp
        rw [this]; exact Nat.min_eq_left (Nat.mul_le_mul_right _ hle), .inr ⟨b, cap, c, rfl, Nat.zero_le _, hwb, by omega, hm, hc, by rw [hl]; exact ht⟩⟩ h1
      (fun x ox hx => by
        unfold FH.with
        by_cases e : x = b
        · subst e; rw [hb] at hx; cases hx
        · rw [if_neg e]; exact hx)
      (fun x hx => by
        simp only [Option.some.injEq] at hx
        subst hx
        exact ⟨by unfold FH.with; rw [if_pos rfl]; simp, hb⟩)
    refine ⟨vs, τ0, _, ha, h, a, b2, ?_⟩
    have := @VRel.sl F (η.withHdr 1 ⟨some b, cap, ss.length⟩) 2 1 1 0 rows.length b cap ss.length o (by decide) (by decide) (by simp [Et.withHdr]) (Nat.zero_le _) hle (fun h0 => by rw [ho h0]; simp)
    simpa using this
/-- A call writes into a tree. -/
theorem BFun.open {X : Cfg} {f : FuncId} {args : List AV} {τ : FH} {E : TypeId} {ss : List Sh} {rows rows' : List (List D)} {l : List (Sh × D × Value)} {u : Value} {r : AV} (hT : Tr τ ((.im E ss, .im rows, u) :: l)) (hl : lows 0 args = true) (hr : low 0 r = true) (hc : CallOk X.P f)
    (hlen : rows'.length = rows.length)
    (h : ∀ vs τ0, agrs ss rows vs → Tr τ0 (subss ss rows vs ++ l) → AFun X f (.sl 1 1 0 rows.length :: args) (stL [some (.box τ0), some (.row 1 E ss.length (exR vs))]) fun A σ' =>
      ∃ vs' τ', A = .ret r ∧ σ'.obj 0 = some (.box τ') ∧ σ'.obj 1 = some (.row 1 E ss.length (exR vs')) ∧ agrs ss rows' vs' ∧ Tr τ' (subss ss rows' vs' ++ l)) :
    BFun X f (.d (.s u) :: args) τ fun A τ' => A = .ret r ∧ Tr τ' ((.im E ss, .im rows', u) :: l) := by
  refine ⟨by simp only [lows, low, hl, Bool.and_self], hc, fun F η w vals hg hf hs hn hv => ?_⟩
  obtain ⟨vs, τ0, η0, ha, hT0, hs0, st0, hu⟩ := open_tr hs hT
  have hv0 := hv 0 (by simp)
  have e0 : vals.getD 0 undef = u := hv0.s_inv
  refine ((h vs τ0 ha hT0).2 F η0 w vals hg hf hs0 (by simpa using hn) fun j hj => ?_).mono ?_
  · cases j with
    | zero =>
      show VRel F η0 2 (.sl 1 1 0 rows.length) _
      rw [e0]; exact hu
    | succ j =>
      have := hv (j + 1) (by simpa using hj)
      simp only [List.getElem_cons_succ] at this ⊢
      exact low0 this (lows_at hl j (by simpa using hj))
  · rintro e w' ⟨F', η', σ1, A, st, hf', hs1, he, vs', τ', rfl, h0, h1, ha', hT'⟩
    have hu' : VRel F' η' σ1.next (.sl 1 1 0 rows'.length) u := by rw [hlen]; exact hu.mono st.fh st.et st.nx
    obtain ⟨τ2, g1, g2, g3⟩ := close_tr hs1 h0 h1 hT' ha' hu'
    have hnx : 1 ≤ σ1.next := Nat.le_trans (by simp [stL]) st.nx
    refine ⟨F', η', boxSt τ2 σ1.next, .ret r, st0.trans ⟨st.fh, st.et, st.nx, st.gr, st.fm, ?_, st.nf⟩, hf', boxSt_srel hnx g2 fun b hb => ?_, ?_, τ2, ⟨rfl, g1⟩, rfl, r, rfl, hr⟩
    · intro i o b hi hb hlt
      simp only [boxSt] at hi
      by_cases e : i = 0
      · rw [if_pos e] at hi
        rw [← Option.some.inj hi] at hb
        rcases (g3 b).1 hb with q | q
        · exact st.nw 0 _ b h0 q hlt
        · exact st.nw 1 _ b h1 q hlt
      · rw [if_neg e] at hi; cases hi
    · rcases (g3 b).1 hb with q | q
      · exact hs1.fr 0 _ b h0 q
      · exact hs1.fr 1 _ b h1 q
    · cases e with
      | returned v => exact he
      | panicked c => exact he.elim
      | outgrown => exact he.elim
end Go.Pm
/- The abstract machine, forty-fourth text: what lies in boxes and rows is lent to a call that looks at it alone; the call gives words or rows of words. -/
set_option linter.unusedVariables false
set_option linter.unusedSimpArgs false
namespace Go.Pm
attribute [local irreducible] AR Ok inBlock andThen endQ aoper
/-- How a value looks once all objects are frozen, boxes too. -/
inductive Ln (σ : St) : AV → AV → Prop
  | fz {x y : AV} (h : AFz σ x y) : Ln σ x y
  | box {i : Nat} {τ : FH} {L : List (Sh × D × Value)} {sh : Sh} {d : D} {u : Value} (hi : σ.obj i = some (.box τ)) (hT : Tr τ L) (hm : (sh, d, u) ∈ L) : Ln σ (.d (.s u)) (.d d)
  | agg {cs cs' : List AV} (hl : cs'.length = cs.length) (h : ∀ j (h1 : j < cs.length) (h2 : j < cs'.length), Ln σ cs[j] cs'[j]) : Ln σ (.agg cs) (.agg cs')
theorem ln_rel {F : FH} {η : Et} {σ : St} {w : World} {n : Nat} (hs : SRel F η σ w) {x y : AV} (h : Ln σ x y) : ∀ {u : Value}, VRel F η σ.next x u → VRel (F.all η σ w) η n y u := by
  induction h with
  | fz h => intro u hu; exact afz_rel hs h hu
  | @box i τ L sh d u' hi hT hm =>
    intro u hu
    have := hu.s_inv
    subst this
    refine .d (tr_data (fun b o hb => ?_) hT hm)
    rw [FH.all_own hi (show Owns η i (.box τ) b from (show τ b ≠ none by rw [hb]; simp))]
    have := hs.ob i _ hi
    cases this with | box h => exact h b o hb
  | agg hl _ ih =>
    intro u hu
    cases hu with
    | agg h1 h2 => exact .agg (by rw [h1, hl]) fun j hj => ih j (by omega) hj (h2 j (by omega))
def LnL (σ : St) : List AV → List AV → Prop
  | [], [] => True
  | x :: l, y :: m => Ln σ x y ∧ LnL σ l m
  | _, _ => False
theorem LnL.get {σ : St} : ∀ {l m : List AV}, LnL σ l m → m.length = l.length ∧ ∀ j (h1 : j < l.length) (h2 : j < m.length), Ln σ l[j] m[j]
  | [], [], _ => ⟨rfl, fun j h1 => by simp at h1⟩
  | x :: l, y :: m, h => by
    obtain ⟨h1, h2⟩ := h.2.get
    refine ⟨by simp [h1], fun j h3 h4 => ?_⟩
    cases j with
    | zero => exact h.1
    | succ j => exact h2 j (by simpa using h3) (by simpa using h4)
  | [], _ :: _, h => h.elim
  | _ :: _, [], h => h.elim
theorem all_frel {F : FH} {η : Et} {σ : St} {w : World} (hf : FRel F w) : FRel (F.all η σ w) w := by
  intro b o hb
  unfold FH.all at hb
  split at hb
  · exact hb
  · exact hf b o hb
/-- A call that looks alone and makes all it gives: its end, with what was frozen for it thawed again. -/
theorem lookAt {X : Cfg} {f : FuncId} {args args' : List AV} {K : AEnd → St → Prop} (hl : lows 0 args' = true) (h : AFun X f args' St.nil K) {σ : St} (ha : LnL σ args args') :
    ∀ (F : FH) (η : Et) (w : World) (vals : Array Value), GRel X F → FRel F w → SRel F η σ w → vals.size = args.length → (∀ j (h : j < args.length), VRel F η σ.next args[j] (vals.getD j undef)) →
      Calls X.P f vals w fun e w' => FRel F w' ∧ SRel F η σ w' ∧ More w w' ∧ (∀ b, b < w.heap.size → w'.heap[b]? = w.heap[b]?) ∧
        ∃ F' η' σ1 E, FRel F' w' ∧ SRel F' η' σ1 w' ∧ EndRel F' η' σ1.next E e ∧ K E σ1 ∧ ∀ i o b, σ1.obj i = some o → Owns η' i o b → w.heap.size ≤ b := by
  intro F η w vals hg hf hs hn hv
  obtain ⟨hle, hrel⟩ := ha.get
  refine (h.2 (F.all η σ w) η w vals (hg.mono (FH.le_all hs)) (all_frel hf) (SRel.nil _ η w) (by rw [hn, hle]) fun j hj => ln_rel hs (hrel j (by omega) hj) (hv j (by omega))).mono ?_
  rintro e w' ⟨F', η', σ1, E, h1, h2, h3, h4, h5⟩
  have hfm : ∀ b, b < w.heap.size → w'.heap[b]? = w.heap[b]? := fun b hb => h1.fm b hb fun i o ho => by simp [St.nil] at ho
  refine ⟨fun b o hb => h2 b o (h1.fh b o (FH.le_all hs b o hb)), ⟨hs.lt, fun i o ho => (hs.ob i o ho).mono (hs.lt i o ho) F.le_refl (Et.agree_refl _ _) (Nat.le_refl _) fun b hb => hfm b ((hs.ob i o ho).own_lt hb), hs.ap, hs.fr⟩, h1.gr, hfm, F', η', σ1, E, h2, h3, h4, h5, fun i o b hi hb => ?_⟩
  rcases Nat.lt_or_ge b w.heap.size with hlt | hge
  · obtain ⟨j, oj, hj, _⟩ := h1.nw i o b hi hb hlt
    simp [St.nil] at hj
  · exact hge
theorem look_step {F : FH} {η : Et} {σ : St} {w w' : World} (hm : More w w') (hfm : ∀ b, b < w.heap.size → w'.heap[b]? = w.heap[b]?) : Step F η σ w F η σ w' :=
  ⟨F.le_refl, Et.agree_refl _ _, Nat.le_refl _, hm, fun b hb _ => hfm b hb, fun i o b ho hb _ => ⟨i, o, ho, hb⟩, fun b o hb _ => .inl hb⟩
/-- The call gives a number or a truth value. -/
theorem PFun.lendB {X : Cfg} {f : FuncId} {args args' : List AV} {v : Value} (h : PFun X f args' (.d (.s v))) {σ : St} (ha : LnL σ args args') : AFun X f args σ fun E σ' => E = .ret (.d (.s v)) ∧ σ' = σ := by
  obtain ⟨hl, _, hc, h⟩ := h
  refine ⟨hc, fun F η w vals hg hf hs hn hv => (lookAt hl ⟨hc, h⟩ ha F η w vals hg hf hs hn hv).mono ?_⟩
  rintro e w' ⟨h1, h2, h3, h4, F', η', σ1, E, _, _, h5, rfl, _⟩
  refine ⟨F, η, σ, _, look_step h3 h4, h1, h2, ?_, rfl, rfl⟩
  cases e with
  | returned u =>
    have h5 : VRel F' η' σ1.next (.d (.s v)) u := h5
    have := h5.s_inv
    subst this
    exact .d (.s _)
  | panicked c => exact h5.elim
  | outgrown => exact h5.elim
/-- A row of words that lies in blocks of its own. -/
theorem exrow_rel {F : FH} {η : Et} {n : Nat} {w : World} {i v E sz : Nat} {vs : List (List Value)} (hv : v < n) (hs : (η.hdr v).sz = sz) (h1 : ∀ u ∈ vs.flatten, u.oneCell' = true) (h2 : ∀ r ∈ vs, r.length = sz) (hp : 0 < sz)
    (ho : w.ownsRow 0 E sz ((η.hdr v).val vs.length) vs.length vs.flatten) : ORel F η n w i (.row v E sz (exR vs)) := by
  refine .row vs.flatten hv hs hp (by rw [exR_len]; exact ho) ?_ h1 ?_
  · intro r hr
    obtain ⟨r', h1, rfl⟩ := List.mem_map.1 hr
    rw [List.length_map]; exact h2 r' h1
  · intro k hk j hj
    have hk' : k < vs.length := by rwa [exR_len] at hk
    have e : (exR vs)[k] = (vs[k]).map ex1 := by simp [exR]
    have hj' : j < (vs[k]).length := by rw [e, List.length_map] at hj; exact hj
    have e2 : ((exR vs)[k])[j] = ex1 ((vs[k])[j]) := by simp [exR]
    rw [e2]
    have hfl : ∀ (vs : List (List Value)), (∀ r ∈ vs, r.length = sz) → ∀ k (hk : k < vs.length) j (hj : j < (vs[k]).length), vs.flatten.getD (k * sz + j) undef = (vs[k])[j] := by
      intro vs
      induction vs with
      | nil => intro _ k hk; simp at hk
      | cons r vs ih =>
        intro hr k hk j hj
        have hrl := hr r (by simp)
        cases k with
        | zero =>
          simp only [List.getElem_cons_zero] at hj ⊢
          simp only [Nat.zero_mul, Nat.zero_add, List.flatten_cons, List.getD]
          rw [List.getElem?_append_left hj, List.getElem?_eq_getElem hj]; rfl
        | succ k =>
          simp only [List.getElem_cons_succ] at hj ⊢
          rw [← ih (fun r h => hr r (by simp [h])) k (by simpa using hk) j hj]
          have : (k + 1) * sz + j = r.length + (k * sz + j) := by rw [Nat.add_mul, Nat.one_mul]; omega
          simp only [List.flatten_cons, List.getD]
          rw [this, List.getElem?_append_right (by omega), Nat.add_sub_cancel_left]
    rw [hfl vs h2 k hk' j hj']; exact .d (.s _)
/-- A row that another state describes is taken over. -/
theorem adopt {F F' : FH} {η η' : Et} {σ σ1 : St} {w : World} (hs : SRel F η σ w) (hs1 : SRel F' η' σ1 w) {j v E sz : Nat} {vs : List (List Value)} (hj : σ1.obj j = some (.row v E sz (exR vs))) {u : Value} (hu : VRel F' η' σ1.next (.sl j v 0 vs.length) u)
    (hn : ∀ b, Owns η' j (.row v E sz (exR vs)) b → F b = none ∧ ∀ i o, σ.obj i = some o → ¬ Owns η i o b) :
    ∃ η2, η.agree σ.next η2 ∧ SRel F η2 (σ.alloc (.row σ.next E sz (exR vs))) w ∧ VRel F η2 (σ.next + 1) (.sl σ.next σ.next 0 vs.length) u ∧ ∀ b, Owns η2 σ.next (.row σ.next E sz (exR vs)) b → Owns η' j (.row v E sz (exR vs)) b := by
  have hro := hs1.ob j _ hj
  obtain ⟨h1, h2, hp, ho⟩ := row_vals hro
  have hsz : (η'.hdr v).sz = sz := by cases hro with | row xs _ hs' => exact hs'
  have hh : (η.withHdr σ.next (η'.hdr v)).hdr σ.next = η'.hdr v := by simp [Et.withHdr]
  have ha := Et.agree_withHdr η σ.next (η'.hdr v)
  have hob : ∀ i o, (σ.alloc (.row σ.next E sz (exR vs))).obj i = some o → (i = σ.next ∧ o = .row σ.next E sz (exR vs)) ∨ σ.obj i = some o := fun i o h => by
    rw [St.obj_alloc] at h
    by_cases e : i = σ.next
    · rw [if_pos e] at h; exact .inl ⟨e, (Option.some.inj h).symm⟩
    · rw [if_neg e] at h; exact .inr h
  have how : ∀ b, Owns (η.withHdr σ.next (η'.hdr v)) σ.next (.row σ.next E sz (exR vs)) b → Owns η' j (.row v E sz (exR vs)) b := fun b hb => by
    simp only [Owns, own, hh] at hb ⊢; exact hb
  have hold : ∀ i o, σ.obj i = some o → Owns (η.withHdr σ.next (η'.hdr v)) i o = Owns η i o := fun i o h => (hs.ob i o h).own_agree (hs.lt i o h) ha
  refine ⟨_, ha, ⟨fun i o h => ?_, fun i o h => ?_, fun i k oi ok b hi hk h3 h4 => ?_, fun i o b h hb => ?_⟩, ?_, how⟩
  · rw [St.next_alloc]
    rcases hob i o h with ⟨rfl, _⟩ | h
    · exact Nat.lt_succ_self _
    · exact Nat.lt_succ_of_lt (hs.lt i o h)
  · rw [St.next_alloc]
    rcases hob i o h with ⟨rfl, rfl⟩ | h
    · exact exrow_rel (Nat.lt_succ_self _) (by rw [hh]; exact hsz) h1 h2 hp (by rw [hh]; exact ho)
    · exact (hs.ob i o h).mono (hs.lt i o h) F.le_refl ha (Nat.le_succ _) fun _ _ => rfl
  · rcases hob i oi hi with ⟨ei, rfl⟩ | hi' <;> rcases hob k ok hk with ⟨ek, rfl⟩ | hk'
    · rw [ei, ek]
    · subst ei
      rw [hold k ok hk'] at h4
      exact absurd h4 ((hn b (how b h3)).2 k ok hk')
    · subst ek
      rw [hold i oi hi'] at h3
      exact absurd h3 ((hn b (how b h4)).2 i oi hi')
    · rw [hold i oi hi'] at h3
      rw [hold k ok hk'] at h4
      exact hs.ap i k oi ok b hi' hk' h3 h4
  · rcases hob i o h with ⟨rfl, rfl⟩ | h
    · exact (hn b (how b hb)).1
    · rw [hold i o h] at hb; exact hs.fr i o b h hb
  · generalize hm : vs.length = m at hu
    cases hu with
    | sl q1 q2 q3 q4 q5 q6 => exact .sl (Nat.lt_succ_self _) (Nat.lt_succ_self _) (hh.trans q3) q4 q5 q6
    | sl0 q1 q2 q3 => exact .sl0 (Nat.lt_succ_self _) (Nat.lt_succ_self _) (hh.trans q3)
/-- A call that gives a row of words. -/
def RFun (X : Cfg) (f : FuncId) (args : List AV) (E : TypeId) (sz : Nat) (vs : List (List Value)) : Prop :=
  lows 0 args = true ∧ 0 < sz ∧ AFun X f args St.nil fun A σ' => (∃ j v, A = .ret (.sl j v 0 vs.length) ∧ σ'.obj j = some (.row v E sz (exR vs))) ∨ (A = .ret (.d (.s (.slice none 0 0))) ∧ vs = [])
theorem RFun.lendB {X : Cfg} {f : FuncId} {args args' : List AV} {E sz : Nat} {vs : List (List Value)} (h : RFun X f args' E sz vs) {σ : St} (ha : LnL σ args args') :
    AFun X f args σ fun A σ' => A = .ret (.sl σ.next σ.next 0 vs.length) ∧ σ' = σ.alloc (.row σ.next E sz (exR vs)) := by
  obtain ⟨hl, hp, hc, h⟩ := h
  refine ⟨hc, fun F η w vals hg hf hs hn hv => (lookAt hl ⟨hc, h⟩ ha F η w vals hg hf hs hn hv).mono ?_⟩
  rintro e w' ⟨h1, h2, h3, h4, F', η', σ1, A, hf', hs1, h5, ⟨j, v, rfl, hj⟩ | ⟨rfl, rfl⟩, hnew⟩
  rotate_left
  · cases e with
    | panicked c => exact h5.elim
    | outgrown => exact h5.elim
    | returned u =>
      have h5 : VRel F' η' σ1.next (.d (.s (.slice none 0 0))) u := h5
      have := h5.s_inv
      subst this
      obtain ⟨η2, g1, g2, g3, g4⟩ := new_nil h1 h2 E sz hp
      exact ⟨F, η2, σ.alloc (.row σ.next E sz []), .ret (.sl σ.next σ.next 0 0), (look_step h3 h4).trans g1, g2, g3, .sl0 (Nat.lt_succ_self _) (Nat.lt_succ_self _) g4, rfl, rfl⟩
  cases e with
  | returned u =>
    obtain ⟨η2, a, b, c, d⟩ := adopt h2 hs1 hj (show VRel F' η' σ1.next (.sl j v 0 vs.length) u from h5) fun b hb => by
      have hge := hnew j _ b hj hb
      refine ⟨?_, fun i o ho hb2 => ?_⟩
      · cases hx : F b with
        | none => rfl
        | some o => exact absurd (Array.getElem?_eq_some_iff.1 (hf b o hx)).1 (by omega)
      · have := (hs.ob i o ho).own_lt hb2; omega
    refine ⟨F, η2, σ.alloc (.row σ.next E sz (exR vs)), .ret (.sl σ.next σ.next 0 vs.length), ⟨F.le_refl, a, Nat.le_succ _, h3, fun b hb _ => h4 b hb, fun i o b hi hb hlt => ?_, fun b o hb _ => .inl hb⟩, h1, b, c, rfl, rfl⟩
    rw [St.obj_alloc] at hi
    by_cases e : i = σ.next
    · subst e
      rw [if_pos rfl] at hi
      rw [← Option.some.inj hi] at hb
      have := hnew j _ b hj (d b hb); omega
    · rw [if_neg e] at hi
      rw [(hs.ob i o hi).own_agree (hs.lt i o hi) a] at hb
      exact ⟨i, o, hi, hb⟩
  | panicked c => exact h5.elim
  | outgrown => exact h5.elim
theorem ln_d (σ : St) (x : D) : Ln σ (.d x) (.d x) := .fz (afz_d x)
theorem ln_agg1 {σ : St} {x y : AV} (h : Ln σ x y) : Ln σ (.agg [x]) (.agg [y]) := .agg rfl fun j h1 h2 => by
  have : j = 0 := by simp at h1; exact h1
  subst this; exact h
section
variable {X : Cfg} {nt : Nat} {Q : Exit → Env → St → Prop} {K : AV → St → Prop} {env : Env} {σ σ' : St} {r : AV}
/-- A call whose end is known up to some words. -/
theorem Yxx {k : FuncId} {args : List AV} {as : Array Operand} {ts : Array TypeId} {f : Operand} {K0 : AEnd → St → Prop} (h : AFun X k args σ K0) (hk : ∀ E σ2, K0 E σ2 → ∃ r, E = .ret r ∧ K r σ2)
    (hf : aev X env f = .d (.s (.func (.func k) #[] #[])) := by exact rfl) (ha : as.toList.map (aev X env) = args := by exact rfl) : aoper X (.call ⟨.value f, as, ts⟩) env σ Q K := by
  subst ha
  simp only [aoper, hf, acallee, acall]
  refine ⟨trivial, trivial, h.mono ?_⟩
  intro E σ2 hK
  obtain ⟨r, rfl, hr⟩ := hk E σ2 hK
  exact hr
end
end Go.Pm
/- The abstract machine, forty-fifth text: rows that are filled with owned structs; rows of words. -/
set_option linter.unusedVariables false
set_option linter.unusedSimpArgs false
namespace Go.Pm
attribute [local irreducible] AR Ok inBlock andThen endQ aoper
theorem subss_app {ss : List Sh} : ∀ {A B : List (List D)} {a b : List (List Value)}, a.length = A.length → subss ss (A ++ B) (a ++ b) = subss ss A a ++ subss ss B b
  | [], _, [], _, _ => rfl
  | r :: A, B, v :: a, b, h => by simp only [List.cons_append, subss, subss_app (ss := ss) (A := A) (B := B) (a := a) (b := b) (by simpa using h), List.append_assoc]
  | [], _, _ :: _, _, h => by simp at h
  | _ :: _, _, [], _, h => by simp at h
theorem agrs_app {ss : List Sh} : ∀ {A B : List (List D)} {a b : List (List Value)}, agrs ss A a → agrs ss B b → agrs ss (A ++ B) (a ++ b)
  | [], _, [], _, _, h => h
  | r :: A, B, v :: a, b, h, h' => ⟨h.1, agrs_app h.2 h'⟩
  | [], _, _ :: _, _, h, _ => h.elim
  | _ :: _, _, [], _, h, _ => h.elim
theorem agrs_mid {ss : List Sh} : ∀ {A B : List (List D)} {x : List D} {vs : List (List Value)}, agrs ss (A ++ x :: B) vs → ∃ a r b, vs = a ++ r :: b ∧ a.length = A.length ∧ agrs ss A a ∧ agr ss x r ∧ agrs ss B b
  | [], B, x, v :: vs, h => ⟨[], v, vs, rfl, rfl, trivial, h.1, h.2⟩
  | y :: A, B, x, v :: vs, h => by
    obtain ⟨a, r, b, h1, h2, h3, h4, h5⟩ := agrs_mid h.2
    exact ⟨v :: a, r, b, by rw [h1]; rfl, by simp [h2], ⟨h.1, h3⟩, h4, h5⟩
  | [], _, _, [], h => h.elim
  | _ :: _, _, _, [], h => h.elim
theorem agrs_words {α : Type} {ss : List Sh} {e : α → List D} {v : α → List Value} (h : ∀ x, agr ss (e x) (v x)) : ∀ l : List α, agrs ss (l.map e) (l.map v)
  | [] => trivial
  | x :: l => ⟨h x, agrs_words h l⟩
/-- No cell is a slice. -/
def Words (ss : List Sh) : Prop := ∀ ds vs, subs ss ds vs = []
theorem subss_nil {ss : List Sh} (h : Words ss) : ∀ (rows : List (List D)) (vs : List (List Value)), subss ss rows vs = []
  | [], _ => by cases ‹List (List Value)› <;> rfl
  | _ :: _, [] => rfl
  | r :: rows, v :: vs => by simp only [subss, h r v, subss_nil h rows vs, List.nil_append]
theorem words_nil : Words [] := fun ds vs => by cases ds <;> cases vs <;> rfl
theorem words_cons {ss : List Sh} (h : Words ss) : Words (.w :: ss) := fun ds vs => by
  cases ds with
  | nil => cases vs <;> rfl
  | cons d ds => cases vs with
    | nil => rfl
    | cons v vs => exact h ds vs
/-- A row under way: what is filled, and zeros. -/
def trv (vs : List (List Value)) (m : Nat) (z : List AV) : List (List AV) := exR vs ++ List.replicate m z
theorem trv_zero (vs : List (List Value)) (z : List AV) : trv vs 0 z = exR vs := by simp [trv]
theorem trv_set (vs : List (List Value)) (m : Nat) (z : List AV) (v : List Value) : (trv vs (m + 1) z).set vs.length (v.map ex1) = trv (vs ++ [v]) m z := by
  simp only [trv]
  rw [List.set_append_right _ _ (by rw [exR_len]; exact Nat.le_refl _), exR_len, Nat.sub_self, List.replicate_succ, List.set_cons_zero]
  simp [exR]
theorem trv_get (vs : List (List Value)) (m : Nat) (z : List AV) : (trv vs (m + 1) z)[vs.length]? = some z := by
  simp only [trv]
  rw [List.getElem?_append_right (by rw [exR_len]; exact Nat.le_refl _), exR_len, Nat.sub_self, List.replicate_succ]; rfl
theorem lows_ex (n : Nat) (v : List Value) : lows n (v.map ex1) = true := lows_of fun c hc => by
  obtain ⟨u, _, rfl⟩ := List.mem_map.1 hc; rfl
theorem exR_low (vs : List (List Value)) (n : Nat) : ∀ r ∈ exR vs, lows n r = true := fun r hr => by
  obtain ⟨v, _, rfl⟩ := List.mem_map.1 hr; exact lows_ex n v
theorem trv_low (vs : List (List Value)) (m n : Nat) {z : List AV} (hz : lows n z = true) : ∀ r ∈ trv vs m z, lows n r = true := fun r hr => by
  rcases List.mem_append.1 hr with h | h
  · exact exR_low vs n r h
  · rw [(List.mem_replicate.1 h).2]; exact hz
theorem Tr.sl {τ : FH} {E : TypeId} {ss : List Sh} {d : D} {u : Value} {l : List (Sh × D × Value)} (h : Tr τ ((.im E ss, d, u) :: l)) : ∃ a n c, u = .slice a n c := by
  cases h <;> exact ⟨_, _, _, rfl⟩
theorem im2_exR {α : Type} {e : α → List D} {v : α → List Value} (h : ∀ x, (e x).map AV.d = (v x).map ex1) (l : List α) : im2 e l = exR (l.map v) := by
  simp only [im2, exR, List.map_map]
  exact List.map_congr_left fun x _ => by simpa using h x
section
variable {X : Cfg} {nt : Nat} {Q : Exit → Env → St → Prop} {K : AV → St → Prop} {env : Env} {σ : St}
/-- An element is filled in. -/
theorem op_putv {vs : List (List Value)} {n k : Nat} {z : List AV} {v : List Value} {t i h el sz : Nat} {ti : TI} {p x : Operand} (hv : vs.length = k) (hlt : k < n) (hp : aev X env p = .ep i h k 0) (ht : X.T t = some ti) (hxc : (aev X env x).cells = some (v.map ex1))
    (hl : v.length = ti.size) (h1 : (v.map ex1).all AV.one = true) (hz : z.length = ti.size) (ho : σ.obj i = some (.row h el sz (trv vs (n - k) z))) (hk : K (.d (.s undef)) (σ.set i (.row h el sz (trv (vs ++ [v]) (n - (k + 1)) z)))) : aoper X (.store t p x) env σ Q K := by
  subst hv
  simp only [aoper, aop, astore]
  refine ⟨ti, ht, _, hxc, by simpa using hl, h1, ?_⟩
  simp only [hp]
  have e0 : n - vs.length = (n - (vs.length + 1)) + 1 := by omega
  rw [e0] at ho
  refine ⟨el, sz, _, ho, z, trv_get vs _ z, by omega, ?_⟩
  have e1 : splice z 0 (v.map ex1) = v.map ex1 := by simp [splice, hz, hl]
  rw [e1, trv_set]
  exact hk
end
end Go.Pm
/- Texts: bytes put behind bytes; the text of a tree. No program in sight. -/
set_option linter.unusedVariables false
set_option linter.unusedSimpArgs false
namespace Go.Pm
def B (l : List UInt8) : ByteArray := ⟨l.toArray⟩
def itoaB (n : Int) : ByteArray := ⟨(Lib.itoa n).toArray⟩
def boolT (v : Int) : ByteArray := if v ≠ 0 then B [116, 114, 117, 101] else B [102, 97, 108, 115, 101]
theorem ba_assoc (a b c : ByteArray) : a ++ b ++ c = a ++ (b ++ c) := by
  apply ByteArray.ext; simp [ByteArray.data_append, Array.append_assoc]
theorem ba_nil (a : ByteArray) : a ++ B [] = a := by apply ByteArray.ext; simp [ByteArray.data_append, B]
theorem nil_ba (a : ByteArray) : B [] ++ a = a := by apply ByteArray.ext; simp [ByteArray.data_append, B]
def catT {α : Type} (f : α → ByteArray) : List α → ByteArray
  | [] => B []
  | x :: l => f x ++ catT f l
def joinT (sep : ByteArray) : Nat → List ByteArray → ByteArray
  | _, [] => B []
  | i, x :: l => (if 0 < i then sep else B []) ++ (x ++ joinT sep (i + 1) l)
/-- The operators of the source text. -/
def otBytes : List (Int × List UInt8) := [(6, [43]), (7, [45]), (8, [42]), (9, [47]), (10, [109, 111, 100]), (11, [61]), (12, [60, 62]), (13, [60]), (14, [60, 61]), (15, [62]), (16, [62, 61]), (17, [97, 110, 100]), (18, [111, 114]), (19, [120, 111, 114])]
def otS : List (Int × ByteArray) := otBytes.map fun y => (y.1, ⟨y.2.toArray⟩)
def otFind (n : Int) : ByteArray := ((otS.find? fun y => decide (y.1 = n)).map (·.2)).getD ⟨#[]⟩
def kid (l : List ByteArray) (i : Nat) : ByteArray := l.getD i (B [])
/-- An item with the texts of its operands. -/
def textK (x : Itm) (l : List ByteArray) : ByteArray :=
  if x.op = 1 then itoaB x.val else if x.op = 2 then boolT x.val else if x.op = 3 then x.name
  else if x.op = 4 then B [40, 45, 32] ++ (kid l 0 ++ B [41])
  else if x.op = 5 then B [40, 110, 111, 116, 32] ++ (kid l 0 ++ B [41])
  else if x.op = 20 then B [40, 105, 102, 32] ++ (kid l 0 ++ (B [32, 116, 104, 101, 110, 32] ++ (kid l 1 ++ (B [32, 101, 108, 115, 101, 32] ++ (kid l 2 ++ B [41])))))
  else if x.op = 21 then B [40] ++ (itoaB x.val ++ (B [32, 102, 98, 121, 32] ++ (kid l 0 ++ B [41])))
  else if x.op = 22 then B [40] ++ (boolT x.val ++ (B [32, 102, 98, 121, 32] ++ (kid l 0 ++ B [41])))
  else if x.op = 23 then B [40] ++ (kid l 0 ++ ((if x.val = 1 then B [32, 119, 104, 101, 110, 32] else B [32, 119, 104, 101, 110, 111, 116, 32]) ++ (x.name ++ B [41])))
  else if x.op = 24 then B [40, 109, 101, 114, 103, 101, 32] ++ (x.name ++ (B [32] ++ (kid l 0 ++ (B [32] ++ (kid l 1 ++ B [41])))))
  else B [40] ++ (kid l 0 ++ (B [32] ++ (otFind x.op ++ (B [32] ++ (kid l 1 ++ B [41])))))
end Go.Pm
/- Marks, plainly: what a copy holds once it is marked, and how far the count goes. No program in sight. -/
set_option linter.unusedVariables false
set_option linter.unusedSimpArgs false
namespace Go.Pm
theorem itoaB_lt {k : Nat} (h : k < 10) : itoaB (k : Int) = B [UInt8.ofNat (48 + k)] := by
  unfold itoaB B; rw [Lib.itoa_nonneg, Lib.decDigits, dif_pos h]
theorem itoaB_ge {k : Nat} (h : ¬ k < 10) : itoaB (k : Int) = itoaB ((k / 10 : Nat) : Int) ++ B [UInt8.ofNat (48 + k % 10)] := by
  unfold itoaB B; rw [Lib.itoa_nonneg, Lib.itoa_nonneg, Lib.decDigits, dif_neg h]
  apply ByteArray.ext
  simp [ByteArray.data_append]
theorem itoaB_le (n : Int) (h0 : -9223372036854775808 ≤ n) (h1 : n ≤ 9223372036854775807) : (itoaB n).size ≤ 21 := Lib.itoa_length_le n h0 h1
/-- The digits of what is not nought. -/
def digs (k : Nat) : ByteArray := if k = 0 then B [] else itoaB (k : Int)
theorem digs_step {k : Nat} (h : 0 < k) : digs k = digs (k / 10) ++ B [UInt8.ofNat (48 + k % 10)] := by
  unfold digs
  rw [if_neg (by omega)]
  by_cases h2 : k < 10
  · rw [if_pos (by omega), nil_ba, itoaB_lt h2, Nat.mod_eq_of_lt h2]
  · rw [if_neg (by omega), itoaB_ge h2]
def markT (k : Int) : ByteArray := B [109] ++ itoaB k
def mkL {α : Type} (f : α → Int → α × Int) : List α → Int → List α × Int
  | [], k => ([], k)
  | x :: l, k => ((f x k).1 :: (mkL f l (f x k).2).1, (mkL f l (f x k).2).2)
def mkStr (_ : ByteArray) (k : Int) : ByteArray × Int := (markT k, k + 1)
def mkNum (_ : Int) (k : Int) : Int × Int := (k, k + 1)
def mkItm (_ : Itm) (k : Int) : Itm × Int := (⟨k, k + 1, markT (k + 1 + 1)⟩, k + 1 + 1 + 1)
def mkSlt (_ : Slt) (k : Int) : Slt × Int := (⟨markT k, k + 1⟩, k + 1 + 1)
def mkCnd (_ : Cnd) (k : Int) : Cnd × Int := (⟨markT k, decide ((k + 1).tmod 3 = 0)⟩, k + 1 + 1)
def mkItms : List Itm → Int → List Itm × Int := mkL mkItm
def mkVr (x : Vr) (k : Int) : Vr × Int := (⟨markT k, k + 1, (mkL mkCnd x.clock (k + 1 + 1)).1⟩, (mkL mkCnd x.clock (k + 1 + 1)).2)
def mkEqn (x : Eqn) (k : Int) : Eqn × Int :=
  let a := mkL mkStr x.lhs k
  let b := mkL mkItm x.code a.2
  let c := mkL mkItms x.args (b.2 + 1)
  (⟨a.1, b.1, markT b.2, c.1⟩, c.2)
def mkNod (x : Nod) (k : Int) : Nod × Int :=
  let a := mkL mkVr x.ins (k + 1)
  let b := mkL mkVr x.outs a.2
  let c := mkL mkVr x.vars b.2
  let d := mkL mkEqn x.eqs c.2
  (⟨markT k, a.1, b.1, c.1, d.1⟩, d.2)
def mkSm (x : Sm) (k : Int) : Sm × Int :=
  let a := mkL mkStr x.outs (k + 1 + 1 + 1)
  let b := mkL mkItm x.code a.2
  let c := mkL mkItms x.args b.2
  (⟨k, markT (k + 1), k + 1 + 1, a.1, b.1, c.1⟩, c.2)
def mkCls (x : Cls) (k : Int) : Cls × Int :=
  let a := mkL mkSlt x.ins (k + 1)
  let b := mkL mkSlt x.outs a.2
  let c := mkL mkStr x.locs b.2
  let d := mkL mkNum x.mems c.2
  let e := mkL mkNum x.insts d.2
  let f := mkL mkSm x.body e.2
  (⟨markT k, a.1, b.1, c.1, d.1, e.1, f.1⟩, f.2)
theorem mkL_len {α : Type} (f : α → Int → α × Int) : ∀ (l : List α) (k : Int), (mkL f l k).1.length = l.length
  | [], _ => rfl
  | x :: l, k => by simp only [mkL, List.length_cons, mkL_len f l]
/-- The count goes up, and no further than the weight allows. -/
def Cnt {α : Type} (f : α → Int → α × Int) (w : α → Nat) : Prop := ∀ x k, k ≤ (f x k).2 ∧ (f x k).2 ≤ k + 4 * (1 + (w x : Int))
theorem wL_cons' {α : Type} {w : α → Nat} (x : α) (l : List α) : wL w (x :: l) = (1 + w x) + wL w l := by
  simp only [wL, List.length_cons, List.map_cons, List.sum_cons]; omega
theorem cntL {α : Type} {f : α → Int → α × Int} {w : α → Nat} (h : Cnt f w) : ∀ (l : List α) (k : Int), k ≤ (mkL f l k).2 ∧ (mkL f l k).2 ≤ k + 4 * (wL w l : Int)
  | [], k => by simp [mkL, wL]
  | x :: l, k => by
    have h1 := h x k
    have h2 := cntL h l (f x k).2
    have e := wL_cons' (w := w) x l
    simp only [mkL]
    omega
theorem cntS : Cnt mkStr wStr := fun x k => by simp only [mkStr]; omega
theorem cntN : Cnt mkNum wNum0 := fun x k => by simp only [mkNum]; omega
theorem cntI : Cnt mkItm wItm := fun x k => by simp only [mkItm]; omega
theorem cntSl : Cnt mkSlt wSlt := fun x k => by simp only [mkSlt]; omega
theorem cntIs : Cnt mkItms (wL wItm) := fun x k => by have := cntL cntI x k; unfold mkItms; omega
theorem cntSm : Cnt mkSm wSm := fun x k => by
  have h1 := cntL cntS x.outs (k + 1 + 1 + 1)
  have h2 := cntL cntI x.code (mkL mkStr x.outs (k + 1 + 1 + 1)).2
  have h3 := cntL cntIs x.args (mkL mkItm x.code (mkL mkStr x.outs (k + 1 + 1 + 1)).2).2
  simp only [mkSm, wSm]; omega
theorem cntCl : Cnt mkCls wCls := fun x k => by
  have h1 := cntL cntSl x.ins (k + 1)
  have h2 := cntL cntSl x.outs (mkL mkSlt x.ins (k + 1)).2
  have h3 := cntL cntS x.locs (mkL mkSlt x.outs (mkL mkSlt x.ins (k + 1)).2).2
  have h4 := cntL cntN x.mems (mkL mkStr x.locs (mkL mkSlt x.outs (mkL mkSlt x.ins (k + 1)).2).2).2
  have h5 := cntL cntN x.insts (mkL mkNum x.mems (mkL mkStr x.locs (mkL mkSlt x.outs (mkL mkSlt x.ins (k + 1)).2).2).2).2
  have h6 := cntL cntSm x.body (mkL mkNum x.insts (mkL mkNum x.mems (mkL mkStr x.locs (mkL mkSlt x.outs (mkL mkSlt x.ins (k + 1)).2).2).2).2).2
  simp only [mkCls, wCls]; omega
end Go.Pm
/- The abstract machine, forty-sixth text: a word of an owned struct is written, a cell is read. -/
set_option linter.unusedVariables false
set_option linter.unusedSimpArgs false
namespace Go.Pm
attribute [local irreducible] AR Ok inBlock andThen endQ aoper
theorem exR_mid (A : List (List Value)) (r : List Value) (B : List (List Value)) : (exR (A ++ r :: B))[A.length]? = some (r.map ex1) := by
  simp [exR]
theorem exR_put (A : List (List Value)) (r r' : List Value) (B : List (List Value)) : (exR (A ++ r :: B)).set A.length (r'.map ex1) = exR (A ++ r' :: B) := by
  simp [exR]
theorem len1 {r : List Value} (h : r.length = 1) : ∃ a, r = [a] := by
  match r, h with
  | [a], _ => exact ⟨a, rfl⟩
theorem len2 {r : List Value} (h : r.length = 2) : ∃ a b, r = [a, b] := by
  match r, h with
  | [a, b], _ => exact ⟨a, b, rfl⟩
theorem len3 {r : List Value} (h : r.length = 3) : ∃ a b c, r = [a, b, c] := by
  match r, h with
  | [a, b, c], _ => exact ⟨a, b, c, rfl⟩
theorem len6 {r : List Value} (h : r.length = 6) : ∃ a b c d e f, r = [a, b, c, d, e, f] := by
  match r, h with
  | [a, b, c, d, e, f], _ => exact ⟨a, b, c, d, e, f, rfl⟩
theorem len7 {r : List Value} (h : r.length = 7) : ∃ a b c d e f g, r = [a, b, c, d, e, f, g] := by
  match r, h with
  | [a, b, c, d, e, f, g], _ => exact ⟨a, b, c, d, e, f, g, rfl⟩
section
variable {X : Cfg} {nt : Nat} {Q : Exit → Env → St → Prop} {K : AV → St → Prop} {env : Env} {σ : St}
theorem op_stw {A B : List (List Value)} {r r' : List Value} {v : Value} {k c i h el sz : Nat} {t : TypeId} {ti : TI} {p x : Operand} (hA : A.length = k) (hr : r.take c ++ v :: r.drop (c + 1) = r') (hc : Nat.blt c r.length = true)
    (hp : aev X env p = .ep i h k c) (ht : X.T t = some ti) (hs : ti.size = 1) (hx : (aev X env x).cells = some [.d (.s v)]) (hv : v.oneCell' = true) (ho : σ.obj i = some (.row h el sz (exR (A ++ r :: B))))
    (hk : K (.d (.s undef)) (σ.set i (.row h el sz (exR (A ++ r' :: B))))) : aoper X (.store t p x) env σ Q K := by
  subst hA
  subst hr
  have hc := blt_lt hc
  simp only [aoper, aop, astore]
  refine ⟨ti, ht, _, hx, by simp [hs], by simpa [AV.one] using hv, ?_⟩
  simp only [hp]
  refine ⟨el, sz, _, ho, _, exR_mid A r B, by simp [hs]; omega, ?_⟩
  have e1 : splice (r.map ex1) c [.d (.s v)] = (r.take c ++ v :: r.drop (c + 1)).map ex1 := by
    simp [splice, ex1]
  rw [e1, exR_put]
  exact hk
theorem op_ldw {A B : List (List Value)} {r : List Value} {v : Value} {k c i h el sz : Nat} {t : TypeId} {ti : TI} {p : Operand} (hA : A.length = k) (hr : r[c]? = some v)
    (hp : aev X env p = .ep i h k c) (ht : X.T t = some ti) (hs : ti.size = 1) (ha : isAggK ti.kind = false) (ho : σ.obj i = some (.row h el sz (exR (A ++ r :: B))))
    (hk : K (.d (.s v)) σ) : aoper X (.load t p) env σ Q K := by
  subst hA
  simp only [aoper, aop, aload]
  have hb : behind σ (.ep i h A.length c) = some (r.map ex1, c) := by
    simp only [behind, ho]
    rw [exR_mid]; rfl
  refine ⟨ti, ht, _, by rw [hp]; exact hb, _, ?_, hk⟩
  have hc : (r.map ex1)[c]? = some (.d (.s v)) := by rw [List.getElem?_map, hr]; rfl
  rw [ha, hs]
  simp only [piece]
  exact hc
end
end Go.Pm
/- The abstract machine, forty-seventh text: a row of words that a call gives goes into a box; a row of words that a call takes and gives longer. -/
set_option linter.unusedVariables false
set_option linter.unusedSimpArgs false
namespace Go.Pm
attribute [local irreducible] AR Ok inBlock andThen endQ aoper
/-- The row that a call gives, laid into a box. -/
theorem RFun.box {X : Cfg} {f : FuncId} {args args' : List AV} {E : TypeId} {ss : List Sh} {rows : List (List D)} {vs : List (List Value)} (h : RFun X f args' E ss.length vs) {σ : St} (ha : LnL σ args args') {i : Nat} {τ : FH} {l : List (Sh × D × Value)}
    (hi : σ.obj i = some (.box τ)) (hT : Tr τ l) (hag : agrs ss rows vs) (hsub : subss ss rows vs = []) :
    AFun X f args σ fun A σ' => ∃ u τ', A = .ret (.d (.s u)) ∧ σ' = (σ.set i (.box τ')).bump ∧ Tr τ' ((.im E ss, .im rows, u) :: l) := by
  refine AFun.wfr h.2.2.1 fun wf _ => ?_
  have hlt := wf i _ hi
  have hno : ∀ o, σ.obj σ.next = some o → False := fun o ho => Nat.lt_irrefl _ (wf _ o ho)
  refine (h.lendB ha).conv ?_
  rintro A σ1 ⟨rfl, rfl⟩ F η w e hs he hn
  cases e with
  | panicked c => exact he.elim
  | outgrown => exact he.elim
  | returned u =>
    have hi1 : (σ.alloc (.row σ.next E ss.length (exR vs))).obj i = some (.box τ) := by rw [St.obj_alloc, if_neg (by omega)]; exact hi
    have hlen := (agrs_len hag).1
    have hj : (σ.alloc (.row σ.next E ss.length (exR vs))).obj σ.next = some (.row σ.next E ss.length (exR vs)) := by rw [St.obj_alloc, if_pos rfl]
    have hu : VRel F η (σ.next + 1) (.sl σ.next σ.next 0 rows.length) u := by rw [← hlen]; exact he
    obtain ⟨τ2, h1, h2, h3⟩ := close_tr hs hi1 hj (by rw [hsub]; exact hT) hag hu
    have hob : ∀ q o, ((σ.set i (.box τ2)).bump).obj q = some o → (q = i ∧ o = .box τ2) ∨ (q ≠ i ∧ q ≠ σ.next ∧ (σ.alloc (.row σ.next E ss.length (exR vs))).obj q = some o) := fun q o hq => by
      rw [St.obj_bump, St.obj_set] at hq
      by_cases e : q = i
      · rw [if_pos e] at hq; exact .inl ⟨e, (Option.some.inj hq).symm⟩
      · rw [if_neg e] at hq
        have e2 : q ≠ σ.next := fun e2 => hno o (by rw [← e2]; exact hq)
        exact .inr ⟨e, e2, by rw [St.obj_alloc, if_neg e2]; exact hq⟩
    refine ⟨(σ.set i (.box τ2)).bump, .ret (.d (.s u)), ⟨u, τ2, rfl, rfl, h1⟩, ⟨fun q o hq => ?_, fun q o hq => ?_, fun q k oq ok b hq hk hbq hbk => ?_, fun q o b hq hb => ?_⟩, .d (.s u), Nat.le_succ _, fun q o b hq hb => ?_⟩
    · rcases hob q o hq with ⟨rfl, _⟩ | ⟨_, _, h⟩
      · exact hs.lt _ _ hi1
      · exact hs.lt _ _ h
    · rcases hob q o hq with ⟨rfl, rfl⟩ | ⟨_, _, h⟩
      · exact .box h2
      · exact hs.ob q o h
    · rcases hob q oq hq with ⟨e1, rfl⟩ | ⟨n1, m1, g1⟩ <;> rcases hob k ok hk with ⟨e2, rfl⟩ | ⟨n2, m2, g2⟩
      · rw [e1, e2]
      · exfalso
        rcases (h3 b).1 hbq with z | z
        · exact n2 (hs.ap k i ok _ b g2 hi1 hbk z)
        · exact m2 (hs.ap k σ.next ok _ b g2 hj hbk z)
      · exfalso
        rcases (h3 b).1 hbk with z | z
        · exact n1 (hs.ap q i oq _ b g1 hi1 hbq z)
        · exact m1 (hs.ap q σ.next oq _ b g1 hj hbq z)
      · exact hs.ap q k oq ok b g1 g2 hbq hbk
    · rcases hob q o hq with ⟨rfl, rfl⟩ | ⟨_, _, h⟩
      · rcases (h3 b).1 hb with z | z
        · exact hs.fr _ _ b hi1 z
        · exact hs.fr _ _ b hj z
      · exact hs.fr q o b h hb
    · rcases hob q o hq with ⟨rfl, rfl⟩ | ⟨_, _, h⟩
      · rcases (h3 b).1 hb with z | z
        · exact ⟨_, _, hi1, z⟩
        · exact ⟨_, _, hj, z⟩
      · exact ⟨q, o, h, hb⟩
/-- A call that takes a row of words and gives it longer. -/
def RowFun (X : Cfg) (f : FuncId) (pre post : List AV) (E : TypeId) (sz : Nat) (vs vs' : List (List Value)) : Prop :=
  lows 0 pre = true ∧ lows 0 post = true ∧ AFun X f (pre ++ .sl 0 1 0 vs.length :: post) (stL [some (.row 1 E sz (exR vs)), none]) fun A σ' => ∃ j v, A = .ret (.sl j v 0 vs'.length) ∧ σ'.obj j = some (.row v E sz (exR vs'))
theorem row_small {F : FH} {η : Et} {σ : St} {w : World} (hs : SRel F η σ w) {r h E sz : Nat} {vs : List (List Value)} (hr : σ.obj r = some (.row h E sz (exR vs))) :
    SRel F (η.withHdr 1 (η.hdr h)) (stL [some (.row 1 E sz (exR vs)), none]) w ∧ ∀ b, Owns (η.withHdr 1 (η.hdr h)) 0 (.row 1 E sz (exR vs)) b ↔ Owns η r (.row h E sz (exR vs)) b := by
  have hh : (η.withHdr 1 (η.hdr h)).hdr 1 = η.hdr h := by simp [Et.withHdr]
  have how : ∀ b, Owns (η.withHdr 1 (η.hdr h)) 0 (.row 1 E sz (exR vs)) b ↔ Owns η r (.row h E sz (exR vs)) b := fun b => by simp only [Owns, own, hh]
  have only : ∀ j o, (stL [some (AO.row 1 E sz (exR vs)), none]).obj j = some o → j = 0 ∧ o = .row 1 E sz (exR vs) := fun j o h => by
    match j, h with
    | 0, h => exact ⟨rfl, (Option.some.inj h).symm⟩
    | 1, h => cases h
    | j + 2, h => simp [stL] at h
  have hro := hs.ob r _ hr
  obtain ⟨h1, h2, hp, ho⟩ := row_vals hro
  have hsz : (η.hdr h).sz = sz := by cases hro with | row xs _ hs' => exact hs'
  refine ⟨⟨fun j o h => ?_, fun j o h => ?_, fun j k oj ok b hj hk _ _ => ?_, fun j o b h hb => ?_⟩, how⟩
  · rw [(only j o h).1]; simp [stL]
  · obtain ⟨rfl, rfl⟩ := only j o h
    exact exrow_rel (by simp [stL]) (by rw [hh]; exact hsz) h1 h2 hp (by rw [hh]; exact ho)
  · rw [(only j oj hj).1, (only k ok hk).1]
  · obtain ⟨rfl, rfl⟩ := only j o h
    exact hs.fr r _ b hr ((how b).1 hb)
theorem RowFun.at {X : Cfg} {f : FuncId} {pre post : List AV} {E sz : Nat} {vs vs' : List (List Value)} (h : RowFun X f pre post E sz vs vs') {σ : St} {r hd : Nat} (hr : σ.obj r = some (.row hd E sz (exR vs))) :
    AFun X f (pre ++ .sl r hd 0 vs.length :: post) σ fun A σ' => A = .ret (.sl r σ.next 0 vs'.length) ∧ σ' = bumpSet σ r (.row σ.next E sz (exR vs')) := by
  obtain ⟨hl1, hl2, hc, h⟩ := h
  refine ⟨hc, fun F η w vals hg hf hs hn hv => ?_⟩
  obtain ⟨hs0, how0⟩ := row_small hs hr
  have hh : (η.withHdr 1 (η.hdr hd)).hdr 1 = η.hdr hd := by simp [Et.withHdr]
  refine (h F (η.withHdr 1 (η.hdr hd)) w vals hg hf hs0 (by simpa using hn) fun j hj => ?_).mono ?_
  · have hj' : j < (pre ++ AV.sl r hd 0 vs.length :: post).length := by simpa using hj
    have hvj := hv j hj'
    rcases Nat.lt_trichotomy j pre.length with hlt | heq | hgt
    · rw [List.getElem_append_left hlt] at hvj ⊢
      exact low0 hvj (lows_at hl1 j hlt)
    · subst heq
      rw [List.getElem_append_right (Nat.le_refl _)] at hvj ⊢
      simp only [Nat.sub_self, List.getElem_cons_zero] at hvj ⊢
      generalize hm : vs.length = m at hvj ⊢
      generalize vals.getD pre.length undef = uu at hvj ⊢
      cases hvj with
      | sl q1 q2 q3 q4 q5 q6 => exact .sl (by simp [stL]) (by simp [stL]) (hh.trans q3) q4 q5 q6
      | sl0 q1 q2 q3 => exact .sl0 (by simp [stL]) (by simp [stL]) (hh.trans q3)
    · obtain ⟨d, hd2⟩ : ∃ d, j = pre.length + 1 + d := ⟨j - pre.length - 1, by omega⟩
      subst hd2
      rw [List.getElem_append_right (by omega)] at hvj ⊢
      have e : pre.length + 1 + d - pre.length = d + 1 := by omega
      simp only [e, List.getElem_cons_succ] at hvj ⊢
      exact low0 hvj (lows_at hl2 d (by simp at hj; omega))
  · rintro e w' ⟨F', η', σ1, A, st, hf', hs1, he, j, v, rfl, hj⟩
    cases e with
    | panicked c => exact he.elim
    | outgrown => exact he.elim
    | returned u =>
      have how : ∀ {b : Nat}, (∃ j oj, (stL [some (AO.row 1 E sz (exR vs)), none]).obj j = some oj ∧ Owns (η.withHdr 1 (η.hdr hd)) j oj b) → Owns η r (.row hd E sz (exR vs)) b := by
        rintro b ⟨q, oq, h1, h2⟩
        match q, h1 with
        | 0, h1 => rw [← Option.some.inj h1] at h2; exact (how0 b).1 h2
        | 1, h1 => cases h1
        | q + 2, h1 => simp [stL] at h1
      have hfm : ∀ b, b < w.heap.size → ¬ Owns η r (.row hd E sz (exR vs)) b → w'.heap[b]? = w.heap[b]? := fun b hb hno => st.fm b hb fun q oq h1 h2 => hno (how ⟨q, oq, h1, h2⟩)
      have hro := hs1.ob j _ hj
      obtain ⟨h1, h2, hp, ho⟩ := row_vals hro
      have hsz : (η'.hdr v).sz = sz := by cases hro with | row xs _ hs' => exact hs'
      have hh2 : (η.withHdr σ.next (η'.hdr v)).hdr σ.next = η'.hdr v := by simp [Et.withHdr]
      have ha := Et.agree_withHdr η σ.next (η'.hdr v)
      have hnew : ∀ b, Owns (η.withHdr σ.next (η'.hdr v)) r (.row σ.next E sz (exR vs')) b → Owns η' j (.row v E sz (exR vs')) b := fun b hb => by simp only [Owns, own, hh2] at hb ⊢; exact hb
      have hnw : ∀ b, Owns (η.withHdr σ.next (η'.hdr v)) r (.row σ.next E sz (exR vs')) b → b < w.heap.size → Owns η r (.row hd E sz (exR vs)) b := fun b hb hlt => how (st.nw j _ b hj (hnew b hb) hlt)
      have hob : ∀ q o, (bumpSet σ r (.row σ.next E sz (exR vs'))).obj q = some o → (q = r ∧ o = .row σ.next E sz (exR vs')) ∨ (q ≠ r ∧ σ.obj q = some o) := fun q o hq => by
        rw [obj_bumpSet] at hq
        by_cases e : q = r
        · rw [if_pos e] at hq; exact .inl ⟨e, (Option.some.inj hq).symm⟩
        · rw [if_neg e] at hq; exact .inr ⟨e, hq⟩
      have hold : ∀ q o, σ.obj q = some o → Owns (η.withHdr σ.next (η'.hdr v)) q o = Owns η q o := fun q o hq => (hs.ob q o hq).own_agree (hs.lt q o hq) ha
      have hno : ∀ q o b, q ≠ r → σ.obj q = some o → Owns η q o b → ¬ Owns η r (.row hd E sz (exR vs)) b := fun q o b hqr hq hb hb2 => hqr (hs.ap q r o _ b hq hr hb hb2)
      refine ⟨F', η.withHdr σ.next (η'.hdr v), _, .ret (.sl r σ.next 0 vs'.length), ⟨st.fh, ha, Nat.le_succ _, st.gr, ?_, ?_, ?_⟩, hf', ⟨?_, ?_, ?_, ?_⟩, ?_, rfl, rfl⟩
      · exact fun b hb hn => hfm b hb (hn r _ hr)
      · intro q o b hq hb hlt
        rcases hob q o hq with ⟨rfl, rfl⟩ | ⟨hqr, hq⟩
        · exact ⟨_, _, hr, hnw b hb hlt⟩
        · rw [hold q o hq] at hb; exact ⟨q, o, hq, hb⟩
      · intro b o hb hlt
        rcases st.nf b o hb hlt with h | h
        · exact .inl h
        · exact .inr ⟨r, _, hr, how h⟩
      · intro q o hq
        rw [next_bumpSet]
        rcases hob q o hq with ⟨rfl, rfl⟩ | ⟨hqr, hq⟩
        · exact Nat.lt_succ_of_lt (hs.lt _ _ hr)
        · exact Nat.lt_succ_of_lt (hs.lt _ _ hq)
      · intro q o hq
        rw [next_bumpSet]
        rcases hob q o hq with ⟨rfl, rfl⟩ | ⟨hqr, hq⟩
        · exact exrow_rel (Nat.lt_succ_self _) (by rw [hh2]; exact hsz) h1 h2 hp (by rw [hh2]; exact ho)
        · exact (hs.ob q o hq).mono (hs.lt q o hq) st.fh ha (Nat.le_succ _) fun b hb => hfm b ((hs.ob q o hq).own_lt hb) (hno q o b hqr hq hb)
      · intro q k oq ok b hq hk hbq hbk
        rcases hob q oq hq with ⟨e1, rfl⟩ | ⟨n1, g1⟩ <;> rcases hob k ok hk with ⟨e2, rfl⟩ | ⟨n2, g2⟩
        · rw [e1, e2]
        · exfalso
          subst e1
          rw [hold k ok g2] at hbk
          exact n2 (hs.ap k q ok _ b g2 hr hbk (hnw b hbq ((hs.ob k ok g2).own_lt hbk)))
        · exfalso
          subst e2
          rw [hold q oq g1] at hbq
          exact n1 (hs.ap q k oq _ b g1 hr hbq (hnw b hbk ((hs.ob q oq g1).own_lt hbq)))
        · rw [hold q oq g1] at hbq
          rw [hold k ok g2] at hbk
          exact hs.ap q k oq ok b g1 g2 hbq hbk
      · intro q o b hq hb
        rcases hob q o hq with ⟨rfl, rfl⟩ | ⟨hqr, hq⟩
        · exact hs1.fr j _ b hj (hnew b hb)
        · rw [hold q o hq] at hb
          cases hx : F' b with
          | none => rfl
          | some ob =>
            exfalso
            rcases st.nf b ob hx ((hs.ob q o hq).own_lt hb) with h | h
            · rw [hs.fr q o b hq hb] at h; cases h
            · exact hno q o b hqr hq hb (how h)
      · have hu : VRel F' η' σ1.next (.sl j v 0 vs'.length) u := he
        show VRel F' _ (σ.next + 1) (.sl r σ.next 0 vs'.length) u
        have hrn := hs.lt _ _ hr
        generalize vs'.length = m at hu ⊢
        cases hu with
        | sl q1 q2 q3 q4 q5 q6 => exact .sl (Nat.lt_succ_of_lt hrn) (Nat.lt_succ_self _) (hh2.trans q3) q4 q5 q6
        | sl0 q1 q2 q3 => exact .sl0 (Nat.lt_succ_of_lt hrn) (Nat.lt_succ_self _) (hh2.trans q3)
theorem RowFun.im {X : Cfg} {f : FuncId} {pre post : List AV} {E sz : Nat} {α : Type} {e : α → List D} {v : α → List Value} (he : ∀ x, (e x).map AV.d = (v x).map ex1) {l l' : List α} (h : RowFun X f pre post E sz (l.map v) (l'.map v)) {σ : St} {r hd : Nat} (hr : σ.obj r = some (.row hd E sz (im2 e l))) :
    AFun X f (pre ++ .sl r hd 0 l.length :: post) σ fun A σ' => A = .ret (.sl r σ.next 0 l'.length) ∧ σ' = bumpSet σ r (.row σ.next E sz (im2 e l')) := by
  rw [im2_exR he] at hr ⊢
  have := h.at hr
  simpa only [List.length_map] using this
/-- The same of a nil slice. -/
theorem RowFun.nil {X : Cfg} {f : FuncId} {pre post : List AV} {E sz : Nat} {vs' : List (List Value)} (h : RowFun X f pre post E sz [] vs') (hp : 0 < sz) : RFun X f (pre ++ .d (.s (.slice none 0 0)) :: post) E sz vs' := by
  obtain ⟨hl1, hl2, hc, h⟩ := h
  have hlow : lows 0 (pre ++ .d (.s (.slice none 0 0)) :: post) = true := lows_of fun c hc => by
    rcases List.mem_append.1 hc with h | h
    · obtain ⟨j, hj, rfl⟩ := List.getElem_of_mem h; exact lows_at hl1 j hj
    · rcases List.mem_cons.1 h with rfl | h
      · rfl
      · obtain ⟨j, hj, rfl⟩ := List.getElem_of_mem h; exact lows_at hl2 j hj
  refine ⟨hlow, hp, hc, fun F η w vals hg hf hs hn hv => ?_⟩
  have hh : (η.withHdr 1 ⟨none, 0, sz⟩).hdr 1 = ⟨none, 0, sz⟩ := by simp [Et.withHdr]
  have only : ∀ j o, (stL [some (AO.row 1 E sz (exR [])), none]).obj j = some o → j = 0 ∧ o = .row 1 E sz (exR []) := fun j o h => by
    match j, h with
    | 0, h => exact ⟨rfl, (Option.some.inj h).symm⟩
    | 1, h => cases h
    | j + 2, h => simp [stL] at h
  have how : ∀ b, ¬ Owns (η.withHdr 1 ⟨none, 0, sz⟩) 0 (.row 1 E sz (exR [])) b := fun b hb => by simp [Owns, own, hh] at hb
  have hs0 : SRel F (η.withHdr 1 ⟨none, 0, sz⟩) (stL [some (.row 1 E sz (exR [])), none]) w := by
    refine ⟨fun j o h => ?_, fun j o h => ?_, fun j k oj ok b hj hk _ _ => ?_, fun j o b h hb => ?_⟩
    · rw [(only j o h).1]; simp [stL]
    · obtain ⟨rfl, rfl⟩ := only j o h
      exact exrow_rel (by simp [stL]) (by rw [hh]) (by simp) (by simp) hp (by rw [hh]; exact World.ownsRow_nil w 0 E sz)
    · rw [(only j oj hj).1, (only k ok hk).1]
    · obtain ⟨rfl, rfl⟩ := only j o h
      exact absurd hb (how b)
  refine (h F (η.withHdr 1 ⟨none, 0, sz⟩) w vals hg hf hs0 (by simpa using hn) fun j hj => ?_).mono ?_
  · have hvj := hv j (by simpa using hj)
    rcases Nat.lt_trichotomy j pre.length with hlt | heq | hgt
    · rw [List.getElem_append_left hlt] at hvj ⊢
      exact low0 hvj (lows_at hl1 j hlt)
    · subst heq
      rw [List.getElem_append_right (Nat.le_refl _)] at hvj ⊢
      simp only [Nat.sub_self, List.getElem_cons_zero] at hvj ⊢
      have e := hvj.s_inv
      rw [e]
      exact .sl0 (by simp [stL]) (by simp [stL]) hh
    · obtain ⟨d, hd2⟩ : ∃ d, j = pre.length + 1 + d := ⟨j - pre.length - 1, by omega⟩
      subst hd2
      rw [List.getElem_append_right (by omega)] at hvj ⊢
      have e : pre.length + 1 + d - pre.length = d + 1 := by omega
      simp only [e, List.getElem_cons_succ] at hvj ⊢
      exact low0 hvj (lows_at hl2 d (by simp at hj; omega))
  · rintro e w' ⟨F', η', σ1, A, st, hf', hs1, he, j, v, rfl, hj⟩
    have hnone : ∀ {b : Nat}, (∃ q oq, (stL [some (AO.row 1 E sz (exR [])), none]).obj q = some oq ∧ Owns (η.withHdr 1 ⟨none, 0, sz⟩) q oq b) → False := by
      rintro b ⟨q, oq, h1, h2⟩
      obtain ⟨rfl, rfl⟩ := only q oq h1
      exact how b h2
    exact ⟨F', η', σ1, _, ⟨st.fh, fun i hi => absurd hi (by simp [St.nil]), Nat.zero_le _, st.gr, fun b hb _ => st.fm b hb fun q oq h1 h2 => hnone ⟨q, oq, h1, h2⟩, fun i o b hi hb hlt => (hnone (st.nw i o b hi hb hlt)).elim, fun b o hb hlt => (st.nf b o hb hlt).imp id fun h => (hnone h).elim⟩, hf', hs1, he, .inl ⟨j, v, rfl, hj⟩⟩
end Go.Pm
