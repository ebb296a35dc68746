/- The abstract machine, twenty-first text: what is forgotten, with other numbers for what remains; loops whose rows grow. -/
import Derived.Test.YtghgkmifoiokjaaDoorPm20
set_option linter.unusedVariables false
set_option linter.unusedSimpArgs false
namespace Go.Pm
mutual
/-- The value, where number j means what π j means. -/
def ren (π : Nat → Nat) : AV → AV
  | .d x => .d x
  | .agg cs => .agg (rens π cs)
  | .tup cs => .tup (rens π cs)
  | .ref i off => .ref (π i) off
  | .sl i v lo hi => .sl (π i) (π v) lo hi
  | .ep i v k off => .ep (π i) (π v) k off
  | .mp i => .mp (π i)
  | .it i => .it (π i)
  | .fn f caps => .fn f (rens π caps)
  | .ifc t x => .ifc t (ren π x)
  | .any => .any
def rens (π : Nat → Nat) : List AV → List AV
  | [] => []
  | c :: cs => ren π c :: rens π cs
end
theorem rens_map (π : Nat → Nat) : ∀ cs : List AV, rens π cs = cs.map (ren π)
  | [] => rfl
  | c :: cs => by simp [rens, rens_map π cs]
def renO (π : Nat → Nat) : AO → AO
  | .var cells => .var (rens π cells)
  | .row v E sz rows => .row (π v) E sz (rows.map (rens π))
  | .map k es => .map k (es.map fun e => (e.1, ren π e.2))
  | .iter o => .iter o
def Et.ren (η : Et) (π : Nat → Nat) : Et := ⟨fun j => η.blk (π j), fun j => η.hdr (π j)⟩
mutual
theorem ren_rel {F : FH} {η : Et} {m n : Nat} {π : Nat → Nat} : ∀ (x : AV) (u : Value), low n x = true → VRel F η m (ren π x) u → VRel F (η.ren π) n x u
  | .d x, u, _, h => by cases h with | d h => exact .d h
  | .agg cs, u, hl, h => by
    simp only [low] at hl
    simp only [ren] at h
    cases h with
    | agg h1 h2 => exact .agg (by simpa [rens_map] using h1) fun j hj => rens_rel cs hl _ (fun j hj' => h2 j hj') j hj
  | .tup cs, u, hl, h => by
    simp only [low] at hl
    simp only [ren] at h
    cases h with
    | tup h1 h2 => exact .tup (by simpa [rens_map] using h1) fun j hj => rens_rel cs hl _ (fun j hj' => h2 j hj') j hj
  | .ref i off, u, hl, h => by
    simp only [low, decide_eq_true_eq] at hl
    cases h with
    | ref hi => exact @VRel.ref F (η.ren π) n i off hl
  | .sl i v lo hi, u, hl, h => by
    simp only [low, Bool.and_eq_true, decide_eq_true_eq] at hl
    simp only [ren] at h
    cases h with
    | sl h1 h2 hh hle hc hoff => exact .sl hl.1 hl.2 hh hle hc hoff
    | sl0 h1 h2 hh => exact .sl0 hl.1 hl.2 hh
  | .ep i v k off, u, hl, h => by
    simp only [low, Bool.and_eq_true, decide_eq_true_eq] at hl
    simp only [ren] at h
    cases h with
    | ep h1 h2 hh => exact .ep hl.1 hl.2 hh
  | .mp i, u, hl, h => by
    simp only [low, decide_eq_true_eq] at hl
    cases h with
    | mp hi => exact @VRel.mp F (η.ren π) n i hl
  | .it i, u, hl, h => by
    simp only [low, decide_eq_true_eq] at hl
    cases h with
    | it hi => exact @VRel.it F (η.ren π) n i hl
  | .fn f caps, u, hl, h => by
    simp only [low] at hl
    simp only [ren] at h
    cases h with
    | fn h1 h2 => exact .fn (by simpa [rens_map] using h1) fun j hj => rens_rel caps hl _ (fun j hj' => h2 j hj') j hj
  | .ifc t x, u, hl, h => by
    simp only [low] at hl
    simp only [ren] at h
    cases h with
    | ifc h1 => exact .ifc (ren_rel x _ hl h1)
  | .any, u, _, _ => .any u
theorem rens_rel {F : FH} {η : Et} {m n : Nat} {π : Nat → Nat} : ∀ (cs : List AV), lows n cs = true → ∀ (g : Nat → Value), (∀ j (hj : j < (rens π cs).length), VRel F η m (rens π cs)[j] (g j)) → ∀ j (hj : j < cs.length), VRel F (η.ren π) n cs[j] (g j)
  | [], _, g, h, j, hj => by simp at hj
  | c :: cs, hl, g, h, 0, hj => by
    simp only [lows, Bool.and_eq_true] at hl
    exact ren_rel c _ hl.1 (h 0 (by simp [rens]))
  | c :: cs, hl, g, h, j + 1, hj => by
    simp only [lows, Bool.and_eq_true] at hl
    exact rens_rel cs hl.2 (fun j => g (j + 1)) (fun j hj => h (j + 1) (by simpa [rens] using hj)) j (by simpa using hj)
end
theorem renO_rel {F : FH} {η : Et} {m n : Nat} {w : World} {π : Nat → Nat} {j : Nat} {o : AO} (hv : o.low n) (h : ORel F η m w (π j) (renO π o)) : ORel F (η.ren π) n w j o := by
  cases o with
  | var cells =>
    simp only [renO] at h
    cases h with
    | var c E b1 b2 b3 b4 =>
      have hl : (rens π cells).length = cells.length := by simp [rens_map]
      exact .var c E b1 (by rw [b2, hl]) (fun j hj => b3 j (by rw [hl]; exact hj)) (rens_rel cells hv _ b4)
  | row v E sz rows =>
    simp only [renO] at h
    cases h with
    | row xs b1 b2 b3 b4 b5 b6 b7 =>
      refine .row xs hv.1 b2 b3 (by simpa [Et.ren] using b4) (fun r hr => ?_) b6 fun k hk j hj => ?_
      · have := b5 (rens π r) (List.mem_map.2 ⟨r, hr, rfl⟩)
        simpa [rens_map] using this
      · refine rens_rel (m := m) rows[k] (hv.2 _ (List.getElem_mem hk)) (fun j => xs.getD (k * sz + j) undef) (fun j hj' => ?_) j hj
        have := b7 k (by simpa using hk) j (by simpa using hj')
        simpa using this
  | map kk es =>
    simp only [renO] at h
    cases h with
    | map e c b1 b2 b3 b4 b4' b5 b6 b7 =>
      refine .map e c b1 (by simpa using b2) (fun y hy => b3 (y.1, ren π y.2) (List.mem_map.2 ⟨y, hy, rfl⟩)) (fun k hk => ?_) (fun k k' hk hk' => ?_) b5 b6 fun k hk => ?_
      · have := b4 k (by simpa using hk); simpa using this
      · have := b4' k k' (by simpa using hk) (by simpa using hk'); simpa using this
      · have := b7 k (by simpa using hk)
        simp only [List.getElem_map] at this
        exact ren_rel _ _ (hv _ (List.getElem_mem hk)) this
  | iter o =>
    simp only [renO] at h
    cases h with
    | iter hb => exact .iter hb
theorem own_ren (η : Et) (π : Nat → Nat) (j : Nat) (o : AO) : own (η.ren π) j o = own η (π j) (renO π o) := by cases o <;> rfl

structure LowR (b : Nat) (π : Nat → Nat) (env : Env) (σ : St) (env' : Env) (σ' : St) : Prop where
  fix : ∀ j, j < b → π j = j
  le : b ≤ σ'.next
  ob : ∀ j o, σ'.obj j = some o → j < σ'.next ∧ σ.obj (π j) = some (renO π o) ∧ o.low σ'.next
  inj : ∀ j k o o', σ'.obj j = some o → σ'.obj k = some o' → π j = π k → j = k
  en : ∀ t, env' t = .any ∨ (env t = ren π (env' t) ∧ low σ'.next (env' t) = true)

theorem LowR.rel {F : FH} {η : Et} {nt b : Nat} {π : Nat → Nat} {env env' : Env} {σ σ' : St} {a : Act} {w : World} (h : LowR b π env σ env' σ') (hr : Rel F η nt env σ a w) : Rel F (η.ren π) nt env' σ' a w := by
  refine ⟨hr.fr, ⟨fun i o ho => (h.ob i o ho).1, fun i o ho => renO_rel (h.ob i o ho).2.2 (hr.st.ob _ _ (h.ob i o ho).2.1), ?_, fun i o b ho hb => hr.st.fr (π i) _ b (h.ob i o ho).2.1 (by rw [← own_ren]; exact hb)⟩, fun t => ?_, hr.sz, hr.df⟩
  · intro i j oi oj b hi hj hbi hbj
    rw [own_ren] at hbi hbj
    exact h.inj i j oi oj hi hj (hr.st.ap _ _ _ _ b (h.ob i oi hi).2.1 (h.ob j oj hj).2.1 hbi hbj)
  · rcases h.en t with h1 | ⟨h1, h2⟩
    · rw [h1]; exact .any _
    · have := hr.en t
      rw [h1] at this
      exact ren_rel _ _ h2 this
theorem LowR.step {F F' : FH} {η η' : Et} {π : Nat → Nat} {σ0 σ σ' : St} {env env' : Env} {w0 w : World} (h : LowR σ0.next π env σ env' σ') (hs : Step F η σ0 w0 F' η' σ w) : Step F η σ0 w0 F' (η'.ren π) σ' w := by
  refine ⟨hs.fh, fun i hi => ?_, h.le, hs.gr, hs.fm, fun i o b ho hb hlt => ?_, hs.nf⟩
  · have := hs.et i hi
    simp only [Et.ren, h.fix i hi]
    exact this
  · rw [own_ren] at hb
    exact hs.nw (π i) _ b (h.ob i o ho).2.1 hb hlt

/-- A loop whose heads are described by a family of descriptions; numbers from the loop's start on may change their meaning. -/
theorem ok_forR {X : Cfg} {nt : Nat} {Q : Exit → Env → St → Prop} {env env1 : Env} {σ σ1 : St} {c : Code} {ι : Type} (E : ι → Env) (S : ι → St) (inv : ι → Prop) (μ : ι → Nat) (x0 : ι) (hi : inv x0)
    (h0 : Turn X nt env σ env1 σ1) (h1 : ∃ π, LowR σ1.next π env1 σ1 (E x0) (S x0))
    (round : ∀ x, inv x → Ok X nt c (andThen (fun env σ => ∃ y, inv y ∧ μ y < μ x ∧ ∃ π, LowR σ1.next π env σ (E y) (S y)) Q) (E x) (S x)) : Ok X nt (.loop c) Q env σ := by
  refine ok_turn h0 ?_
  intro F0 η0 a0 w0 hg0 hr0
  let J : Act → World → Nat → Prop := fun a w n => ∃ F η x, inv x ∧ μ x = n ∧ Step F0 η0 σ1 w0 F η (S x) w ∧ GRel X F ∧ Rel F η nt (E x) (S x) a w
  intro b k cs
  have key : ∀ n a w, J a w n → ∃ e a' w', Post X nt F0 η0 σ1 w0 Q e a' w' ∧ Arrives X.P (lone (b.at a (.code c :: .inLoop c :: k)) cs w) b k cs e a' w' := by
    intro n
    induction n using Nat.strongRecOn with
    | _ n ih =>
      intro a w hJ
      obtain ⟨F, η, x, hx, hμ, hs, hg, hr⟩ := hJ
      obtain ⟨e, a₁, w₁, hq, harr⟩ := round x hx F η a w hg hr b (.inLoop c :: k) cs
      cases e with
      | normal =>
        obtain ⟨F1, η1, env1, σ1', s1, g1, r1, y, hy, hlt, π, hlow⟩ := hq
        obtain ⟨e₂, a₂, w₂, hq₂, harr₂⟩ := ih (μ y) (by omega) a₁ w₁ ⟨F1, _, y, hy, rfl, hlow.step (hs.trans s1), g1, hlow.rel r1⟩
        exact ⟨e₂, a₂, w₂, hq₂, .of_steps (Steps.trans harr (.one step_inLoop)) harr₂⟩
      | exit id => exact ⟨_, a₁, w₁, hq.trans hs (fun _ _ h => h), .pass (x := .inLoop c) rfl (fun _ _ => .inl (by simp)) harr⟩
      | goto l => exact ⟨_, a₁, w₁, hq.trans hs (fun _ _ h => h), .pass (x := .inLoop c) rfl (fun _ _ => .inl (by simp)) harr⟩
      | ret => exact ⟨_, a₁, w₁, hq.trans hs (fun _ _ h => h), .pass (x := .inLoop c) rfl (fun _ _ => .inl (by simp)) harr⟩
      | panic ch => exact ⟨_, a₁, w₁, hq.trans hs (fun _ _ h => h), .pass (x := .inLoop c) rfl (fun _ _ => .inl (by simp)) harr⟩
      | outgrown => exact ⟨_, a₁, w₁, hq.trans hs (fun _ _ h => h), .pass (x := .inLoop c) rfl (fun _ _ => .inl (by simp)) harr⟩
  obtain ⟨π, hlow⟩ := h1
  obtain ⟨e, a', w', hq, harr⟩ := key (μ x0) a0 w0 ⟨F0, _, x0, hi, rfl, hlow.step (.refl _ _ _ _), hg0, hlow.rel hr0⟩
  exact ⟨e, a', w', hq, .of_steps (.one step_loop) harr⟩

/-! ### tables -/
def rn : List (Nat × Nat) → Nat → Nat
  | [], j => j
  | (a, b) :: l, j => if j = a then b else rn l j
theorem rn_fix {b : Nat} : ∀ {l : List (Nat × Nat)}, (l.all fun y => Nat.ble b y.1) = true → ∀ j, j < b → rn l j = j
  | [], _, j, _ => rfl
  | (a, c) :: l, h, j, hj => by
    simp only [List.all_cons, Bool.and_eq_true] at h
    have h1 : b ≤ a := Nat.le_of_ble_eq_true h.1
    simp only [rn]
    rw [if_neg (by omega)]
    exact rn_fix h.2 j hj
def LowEnvR (π : Nat → Nat) (env : Env) (n : Nat) : List (Nat × AV) → Prop
  | [] => True
  | (k, v) :: l => (env k = ren π v ∧ low n v = true) ∧ LowEnvR π env n l
def LowStR (π : Nat → Nat) (σ : St) (n : Nat) : Nat → List (Option AO) → Prop
  | _, [] => True
  | i, none :: l => LowStR π σ n (i + 1) l
  | i, some o :: l => (σ.obj (π i) = some (renO π o) ∧ o.low n) ∧ LowStR π σ n (i + 1) l
def live : Nat → List (Option AO) → List Nat
  | _, [] => []
  | i, none :: l => live (i + 1) l
  | i, some _ :: l => i :: live (i + 1) l
def distN : List Nat → Bool
  | [] => true
  | x :: l => l.all (fun y => !(x == y)) && distN l
theorem lowEnvR_at {π : Nat → Nat} {env : Env} {n : Nat} : ∀ {L : List (Nat × AV)}, LowEnvR π env n L → ∀ t, envL L t = .any ∨ (env t = ren π (envL L t) ∧ low n (envL L t) = true)
  | [], _, t => .inl rfl
  | (k, v) :: l, h, t => by
    simp only [envL]
    by_cases ht : t = k
    · subst ht; rw [if_pos rfl]; exact .inr h.1
    · rw [if_neg ht]; exact lowEnvR_at h.2 t
theorem lowStR_at {π : Nat → Nat} {σ : St} {n : Nat} : ∀ {L : List (Option AO)} {i : Nat}, LowStR π σ n i L → ∀ j o, (L[j]?).join = some o → (σ.obj (π (i + j)) = some (renO π o) ∧ o.low n) ∧ i + j ∈ live i L
  | [], _, _, j, o, h => by simp at h
  | none :: l, i, hs, j, o, h => by
    cases j with
    | zero => simp at h
    | succ j =>
      have := lowStR_at (L := l) (i := i + 1) hs j o (by simpa using h)
      rwa [show i + 1 + j = i + (j + 1) by omega] at this
  | some x :: l, i, hs, j, o, h => by
    cases j with
    | zero => simp at h; subst h; exact ⟨hs.1, by simp [live]⟩
    | succ j =>
      have := lowStR_at (L := l) (i := i + 1) hs.2 j o (by simpa using h)
      rw [show i + 1 + j = i + (j + 1) by omega] at this
      exact ⟨this.1, by simp [live, this.2]⟩
theorem distN_inj {π : Nat → Nat} : ∀ {l : List Nat}, distN (l.map π) = true → ∀ i j, i ∈ l → j ∈ l → π i = π j → i = j
  | [], _, i, j, hi, _, _ => by simp at hi
  | x :: l, h, i, j, hi, hj, he => by
    simp only [List.map_cons, distN, Bool.and_eq_true, List.all_eq_true, Bool.not_eq_true', beq_eq_false_iff_ne, List.mem_map, ne_eq, forall_exists_index, and_imp] at h
    rcases List.mem_cons.1 hi with rfl | hi' <;> rcases List.mem_cons.1 hj with rfl | hj'
    · rfl
    · exact absurd he (h.1 _ j hj' rfl)
    · exact absurd he.symm (h.1 _ i hi' rfl)
    · exact distN_inj h.2 i j hi' hj' he
theorem lowR_mk {b : Nat} {env : Env} {σ : St} {L : List (Nat × AV)} {O : List (Option AO)} (R : List (Nat × Nat)) (hb : Nat.ble b O.length = true) (hf : (R.all fun y => Nat.ble b y.1) = true) (hd : distN ((live 0 O).map (rn R)) = true) (he : LowEnvR (rn R) env O.length L) (ho : LowStR (rn R) σ O.length 0 O) :
    ∃ π, LowR b π env σ (envL L) (stL O) := by
  have hat : ∀ i o, (O[i]?).join = some o → (σ.obj (rn R i) = some (renO (rn R) o) ∧ o.low O.length) ∧ i ∈ live 0 O := fun i o h => by
    have := lowStR_at ho i o h
    rwa [Nat.zero_add] at this
  refine ⟨rn R, rn_fix hf, Nat.le_of_ble_eq_true hb, fun i o h => ⟨?_, (hat i o h).1⟩, fun i j o o' h h' he' => distN_inj hd i j (hat i o h).2 (hat j o' h').2 he', lowEnvR_at he⟩
  have h1 : (O[i]?).join = some o := h
  rcases Nat.lt_or_ge i O.length with hlt | hge
  · exact hlt
  · rw [List.getElem?_eq_none hge] at h1; cases h1
theorem renO_row {π : Nat → Nat} {v v' E sz : Nat} {rows : List (List AV)} (hv : v = π v') (hr : rows.map (rens π) = rows) : some (AO.row v E sz rows) = some (renO π (.row v' E sz rows)) := by simp only [renO, hr, ← hv]
theorem rens_d (π : Nat → Nat) : ∀ l : List D, rens π (l.map .d) = l.map .d
  | [] => rfl
  | x :: l => by simp [rens, ren, rens_d π l]
theorem im2_ren {α : Type} (π : Nat → Nat) (e : α → List D) (l : List α) : (im2 e l).map (rens π) = im2 e l := by
  simp only [im2, List.map_map]
  refine List.map_congr_left fun y _ => ?_
  exact rens_d π (e y)
theorem fil_ren {α : Type} (π : Nat → Nat) (e : α → List D) (l : List α) (m : Nat) {z : List AV} (hz : rens π z = z) : (fil e l m z).map (rens π) = fil e l m z := by
  simp only [fil, tRows, List.map_append, im2_ren, List.map_replicate, hz]
theorem renO_map {β : Type} {π : Nat → Nat} {e : β → AV} {k : KD} (F : List (ByteArray × β)) (h : ∀ b, ren π (e b) = e b) : some (AO.map k (smap e F)) = some (renO π (.map k (smap e F))) := by
  simp [renO, smap, h]
theorem renO_var {π : Nat → Nat} (l : List D) : some (AO.var (l.map .d)) = some (renO π (.var (l.map .d))) := by simp [renO, rens_d]
end Go.Pm
