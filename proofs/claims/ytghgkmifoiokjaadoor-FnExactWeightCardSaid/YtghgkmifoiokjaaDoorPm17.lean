/- The abstract machine, seventeenth text: rows that are built, and steps through drawn regions. -/
import Derived.Test.YtghgkmifoiokjaaDoorPm16
set_option linter.unusedVariables false
set_option linter.unusedSimpArgs false
namespace Go.Pm
attribute [local irreducible] AR Ok inBlock andThen endQ aoper

section draw
variable {X : Cfg} {nt : Nat} {ops : Array Oper} {rest : List Oper} {Q : Exit → Env → St → Prop} {env : Env} {σ : St} {dst : Option Tmp} {op : Op} {ty : TypeId} {pos : String} {after : Array Edge} {j d : Nat} {b want : Bool} {r : AV}
theorem ad_nil (h : Q .normal env σ) : AD X nt ops Q σ [] env := ⟨env, .nil env, h⟩
theorem ad_none (hd : dst.all (· < nt) = true) (h : aoper X op env σ (fun _ _ _ => False) fun v σ' => σ' = σ ∧ v = r) (k : AD X nt ops Q σ rest (put env dst r)) : AD X nt ops Q σ (⟨dst, op, ty, pos, after, none⟩ :: rest) env := by
  obtain ⟨E, h1, h2⟩ := k
  exact ⟨E, .op (o := ⟨dst, op, ty, pos, after, none⟩) ⟨hd, h⟩ h1, h2⟩
theorem ad_hold2 (hj : (ops[j]?).bind (·.dst) = some d) (hn : Nat.blt d nt = true) (hb : env d = .d (.s (.bool b))) (hd : dst.all (· < nt) = true) (hw : b = want) (h : aoper X op env σ (fun _ _ _ => False) fun v σ' => σ' = σ ∧ v = r)
    (k : AD X nt ops Q σ rest (put env dst r)) : AD X nt ops Q σ (⟨dst, op, ty, pos, after, some (j, want)⟩ :: rest) env := by
  subst hw
  obtain ⟨E, h1, h2⟩ := k
  exact ⟨E, .op (o := ⟨dst, op, ty, pos, after, some (j, b)⟩) ⟨hd, d, hj, blt_lt hn, .inl ⟨hb, h⟩⟩ h1, h2⟩
theorem ad_skip_t (hj : (ops[j]?).bind (·.dst) = some d) (hn : Nat.blt d nt = true) (hb : env d = .d (.s (.bool b))) (hd : dst.all (· < nt) = true) (hw : b = false) (k : AD X nt ops Q σ rest (put env dst (.d (.s undef)))) :
    AD X nt ops Q σ (⟨dst, op, ty, pos, after, some (j, true)⟩ :: rest) env := by
  subst hw
  obtain ⟨E, h1, h2⟩ := k
  exact ⟨E, .op (o := ⟨dst, op, ty, pos, after, some (j, true)⟩) ⟨hd, d, hj, blt_lt hn, .inr (.inl ⟨hb, rfl⟩)⟩ h1, h2⟩
theorem ad_skip_f (hj : (ops[j]?).bind (·.dst) = some d) (hn : Nat.blt d nt = true) (hb : env d = .d (.s (.bool b))) (hd : dst.all (· < nt) = true) (hw : b = true) (k : AD X nt ops Q σ rest (put env dst (.d (.s undef)))) :
    AD X nt ops Q σ (⟨dst, op, ty, pos, after, some (j, false)⟩ :: rest) env := by
  subst hw
  obtain ⟨E, h1, h2⟩ := k
  exact ⟨E, .op (o := ⟨dst, op, ty, pos, after, some (j, false)⟩) ⟨hd, d, hj, blt_lt hn, .inr (.inl ⟨hb, rfl⟩)⟩ h1, h2⟩
theorem ad_undef (hj : (ops[j]?).bind (·.dst) = some d) (hn : Nat.blt d nt = true) (hb : env d = .d (.s undef)) (hd : dst.all (· < nt) = true) (k : AD X nt ops Q σ rest (put env dst (.d (.s undef)))) :
    AD X nt ops Q σ (⟨dst, op, ty, pos, after, some (j, want)⟩ :: rest) env := by
  obtain ⟨E, h1, h2⟩ := k
  exact ⟨E, .op (o := ⟨dst, op, ty, pos, after, some (j, want)⟩) ⟨hd, d, hj, blt_lt hn, .inr (.inr ⟨hb, rfl⟩)⟩ h1, h2⟩
end draw

/-! ### rows that stand for a list -/

/-- Rows of cells that stand for a list. -/
def im2 {α : Type} (e : α → List D) (l : List α) : List (List AV) := (l.map e).map (·.map .d)
theorem im2_length {α : Type} (e : α → List D) (l : List α) : (im2 e l).length = l.length := by simp [im2]
theorem im2_append {α : Type} (e : α → List D) (l m : List α) : im2 e l ++ im2 e m = im2 e (l ++ m) := by simp [im2]

def rowDF : List AV → Option (List D)
  | [] => some []
  | .d x :: l => match rowDF l with | some m => some (x :: m) | none => none
  | _ :: _ => none
theorem rowDF_eq : ∀ {l : List AV} {m : List D}, rowDF l = some m → l = m.map .d
  | [], m, h => by simp [rowDF] at h; simp [h]
  | .d x :: l, m, h => by
    simp only [rowDF] at h
    split at h
    · rename_i k hk; simp only [Option.some.injEq] at h; subst h; rw [rowDF_eq hk]; rfl
    · simp at h
  | .agg _ :: l, m, h => by simp [rowDF] at h
  | .tup _ :: l, m, h => by simp [rowDF] at h
  | .ref _ _ :: l, m, h => by simp [rowDF] at h
  | .sl _ _ _ _ :: l, m, h => by simp [rowDF] at h
  | .ep _ _ _ _ :: l, m, h => by simp [rowDF] at h
  | .mp _ :: l, m, h => by simp [rowDF] at h
  | .it _ :: l, m, h => by simp [rowDF] at h
  | .fn _ _ :: l, m, h => by simp [rowDF] at h
  | .ifc _ _ :: l, m, h => by simp [rowDF] at h
  | .any :: l, m, h => by simp [rowDF] at h
def rowsDF : List (List AV) → Option (List (List D))
  | [] => some []
  | r :: l => match rowDF r, rowsDF l with | some x, some m => some (x :: m) | _, _ => none
theorem rowsDF_eq : ∀ {l : List (List AV)} {m : List (List D)}, rowsDF l = some m → l = m.map (·.map .d)
  | [], m, h => by simp [rowsDF] at h; simp [h]
  | r :: l, m, h => by
    simp only [rowsDF] at h
    split at h
    · rename_i x k hx hk; simp only [Option.some.injEq] at h; subst h; rw [rowsDF_eq hk, rowDF_eq hx]; rfl
    · simp at h

section rows
variable {X : Cfg} {nt : Nat} {ops : Array Oper} {rest : List Oper} {Q : Exit → Env → St → Prop} {K : AV → St → Prop} {env : Env} {σ σ' : St} {dst : Option Tmp} {op : Op} {ty : TypeId} {pos : String} {after : Array Edge}

/-- A slice out of parts. -/
theorem op_bslice {t len : Nat} {ps : Array (Nat × Operand)} {ti te : TI} {e n : Nat} {rows : List (List AV)} (ht : X.T t = some ti) (hk : ti.kind = .slice e) (hte : X.T e = some te) (hp : Nat.blt 0 te.size = true) (hb : Nat.ble (len * te.size) 16777216 = true)
    (hr : fillRows te.size (List.replicate len (zrow te)) (ps.toList.map fun p => (p.1, aev X env p.2)) = some rows) (hn : natF σ.next = some n) (h : K (.sl n n 0 len) (σ.alloc (.row n e te.size rows))) : aoper X (.buildSlice t len ps) env σ Q K := by
  have hn := natF_eq hn
  subst hn
  simp only [aoper, aop, abuildSlice]
  exact ⟨ti, ht, e, te, hk, hte, blt_lt hp, Nat.le_of_ble_eq_true hb, rows, hr, h⟩

/-- A slice out of parts that nothing writes afterwards. -/
theorem ar_bslice {t len d : Nat} {ps : Array (Nat × Operand)} {ti te : TI} {e : Nat} {rows : List (List AV)} {drows : List (List D)} (hd : Nat.blt d nt = true) (ht : X.T t = some ti) (hk : ti.kind = .slice e) (hte : X.T e = some te) (hp : Nat.blt 0 te.size = true)
    (hb : Nat.ble (len * te.size) 16777216 = true) (hr : fillRows te.size (List.replicate len (zrow te)) (ps.toList.map fun p => (p.1, aev X env p.2)) = some rows) (hdr : rowsDF rows = some drows) (hl : drows.length = len)
    (hnew : σ.obj σ.next = none) (h : AR X nt ops Q rest (put env (some d) (.d (.im drows))) σ.bump) : AR X nt ops Q (⟨some d, .buildSlice t len ps, ty, pos, after, none⟩ :: rest) env σ := by
  refine ar_none (by simpa using blt_lt hd) ?_
  simp only [aoper, aop, abuildSlice]
  refine ⟨ti, ht, e, te, hk, hte, blt_lt hp, Nat.le_of_ble_eq_true hb, rows, hr, ?_⟩
  have he := rowsDF_eq hdr
  subst he
  refine ar_turn (σ' := σ.bump) (turn_freeze σ.next (v := σ.next) (E := e) (sz := te.size) (rows := drows) (by simp [St.alloc]) rfl ?_ ?_) h
  · intro j o' hj
    have hj' : σ.obj j = some o' := hj
    have hne : j ≠ σ.next := fun e => by subst e; rw [hnew] at hj'; cases hj'
    exact ⟨hne, o', by simp [St.alloc, hne, hj'], ofrz_refl _ o'⟩
  · intro t'
    by_cases htd : t' = d
    · subst htd
      simp only [put, if_true]
      exact .sl rfl (by omega) (by rw [Nat.sub_zero, List.drop_zero, ← hl, List.take_length])
    · simp only [put, htd, if_false]
      exact .refl _
/-- One list more. -/
theorem op_append {α : Type} {e : α → List D} {l m : List α} {xrows : List (List D)} {as : Array Operand} {ts : Array TypeId} {s x : Operand} {t tx el i v n : Nat} {ti te tix : TI} (hs : aev X env s = .sl i v 0 l.length) (h1 : as.toList = [s, x]) (h2 : ts.toList = [t, tx])
    (ht : X.T t = some ti) (hk : ti.kind = .slice el) (hte : X.T el = some te) (hp : Nat.blt 0 te.size = true) (hpb : Nat.blt 0 te.bytes = true) (htx : X.T tx = some tix) (hkx : tix.kind = .slice el) (ho : σ.obj i = some (.row v el te.size (im2 e l)))
    (hx : aev X env x = .d (.im xrows)) (hxr : xrows = m.map e) (hsz : ∀ y : α, (e y).length = te.size) (hb : (l.length + m.length) * te.bytes ≤ 140737488355328) (hn : natF σ.next = some n)
    (h : K (.sl i n 0 (l ++ m).length) (bumpSet σ i (.row n el te.size (im2 e (l ++ m))))) : aoper X (.call ⟨.builtin .append, as, ts⟩) env σ Q K := by
  have hn := natF_eq hn
  subst hn
  subst hxr
  simp only [aoper, h1, h2, abuiltin, aappend]
  refine ⟨ti, ht, el, te, hk, hte, blt_lt hp, blt_lt hpb, tix, htx, im2 e m, by rw [hkx, hx]; rfl, ?_, ?_⟩
  · intro r hr
    simp only [im2, List.map_map, List.mem_map, Function.comp] at hr
    obtain ⟨y, _, rfl⟩ := hr
    simp [hsz]
  · simp only [hs]
    refine ⟨trivial, im2 e l, ho, by rw [im2_length]; exact Nat.le_refl _, by rw [im2_length]; exact hb, ?_⟩
    have e1 : (im2 e l).take l.length ++ im2 e m = im2 e (l ++ m) := by rw [← im2_append, List.take_of_length_le (by rw [im2_length]; exact Nat.le_refl _)]
    rw [e1, im2_length, ← List.length_append]
    exact h

/-- A new row of zero values. -/
theorem op_make {t el n k : Nat} {ti te : TI} {l c : Operand} (hl : aev X env l = vi (k : Int)) (hc : aev X env c = vi (k : Int)) (hk' : k ≤ 4294967296) (ht : X.T t = some ti) (hk : ti.kind = .slice el) (hte : X.T el = some te)
    (hp : Nat.blt 0 te.size = true) (hb : Nat.ble te.bytes 32768 = true) (hn : natF σ.next = some n) (h : K (.sl n n 0 k) (σ.alloc (.row n el te.size (List.replicate k (zrow te))))) : aoper X (.makeSlice t l c) env σ Q K := by
  have hn := natF_eq hn
  subst hn
  simp only [aoper, aop, amakeSlice]
  refine ⟨k, k, ⟨_, hl⟩, ⟨_, hc⟩, Int.natCast_nonneg _, Int.le_refl _, by omega, ti, ht, el, te, hk, hte, blt_lt hp, Nat.le_of_ble_eq_true hb, ?_⟩
  rw [Int.toNat_natCast]
  exact h

/-- The place of an element of a row. -/
theorem op_place {t i v hi k el : Nat} {ti te : TI} {rows : List (List AV)} {x y : Operand} (hx : aev X env x = .sl i v 0 hi) (hy : aev X env y = vi (k : Int)) (hlt : k < hi) (ht : X.T t = some ti) (hk : ti.kind = .slice el) (hte : X.T el = some te)
    (ho : σ.obj i = some (.row v el te.size rows)) (h : K (.ep i v k 0) σ) : aoper X (.indexAddr t x y) env σ Q K := by
  simp only [aoper, aop, aindexAddr]
  refine ⟨k, ⟨_, hy⟩, Int.natCast_nonneg _, ti, ht, ?_⟩
  simp only [hk, hx]
  exact ⟨by omega, ⟨te, rows, hte, ho⟩, by simpa using h⟩

/-- Rows of which the first stand for a list and the others are zero. -/
def tRows {α : Type} (e : α → List D) (l : List α) (m : Nat) (z : List AV) : List (List AV) := im2 e l ++ List.replicate m z
theorem tRows_zero {α : Type} (e : α → List D) (l : List α) (z : List AV) : tRows e l 0 z = im2 e l := by simp [tRows]
theorem tRows_set {α : Type} (e : α → List D) (l : List α) (m : Nat) (z : List AV) (y : α) : (tRows e l (m + 1) z).set l.length ((e y).map .d) = tRows e (l ++ [y]) m z := by
  simp only [tRows]
  rw [List.set_append_right _ _ (by rw [im2_length]; exact Nat.le_refl _), im2_length, Nat.sub_self, List.replicate_succ, List.set_cons_zero, ← im2_append]
  simp [im2]

/-- The next of these rows is written. -/
theorem op_put {α : Type} {e : α → List D} {l : List α} {m : Nat} {z : List AV} {y : α} {t i v el sz : Nat} {ti : TI} {p x : Operand} {cs : List AV} (hp : aev X env p = .ep i v l.length 0) (ht : X.T t = some ti) (hx : cellsF (aev X env x) = some cs) (hcs : cs = (e y).map .d)
    (hl : (e y).length = ti.size) (h1 : ∀ c ∈ (e y), AV.one (.d c) = true) (hz : z.length = ti.size) (ho : σ.obj i = some (.row v el sz (tRows e l (m + 1) z))) (h : K (.d (.s undef)) (σ.set i (.row v el sz (tRows e (l ++ [y]) m z)))) :
    aoper X (.store t p x) env σ Q K := by
  subst hcs
  simp only [aoper, aop, astore]
  refine ⟨ti, ht, _, cellsF_eq hx, by simpa using hl, by simpa [List.all_eq_true] using h1, ?_⟩
  simp only [hp]
  have hrow : (tRows e l (m + 1) z)[l.length]? = some z := by
    simp only [tRows]
    rw [List.getElem?_append_right (by rw [im2_length]; exact Nat.le_refl _), im2_length, Nat.sub_self]
    simp
  refine ⟨el, sz, _, ho, z, hrow, by omega, ?_⟩
  have e1 : splice z 0 ((e y).map .d) = (e y).map .d := by simp [splice, hz, hl]
  rw [e1, tRows_set]
  exact h

/-- The row that is given back is frozen. -/
theorem fz_ret {α : Type} {e : α → List D} {l : List α} {c : Code} (t : Nat) {i v el sz n : Nat} {Q : Exit → Env → St → Prop} (ht : env t = .sl i v 0 n) (ho : σ.obj i = some (.row v el sz (im2 e l))) (hn : n = l.length)
    (h : Ok X nt c Q (envL [(t, .d (.im (l.map e)))]) ⟨fun _ => none, σ.next⟩) : Ok X nt c Q env σ := by
  refine ok_turn (env' := envL [(t, .d (.im (l.map e)))]) (σ' := ⟨fun _ => none, σ.next⟩) (turn_freeze i (v := v) (E := el) (sz := sz) (rows := l.map e) ho rfl (fun j o hj => by cases (show (none : Option AO) = some o from hj)) ?_) h
  intro t'
  simp only [envL]
  by_cases h1 : t' = t
  · subst h1
    rw [if_pos rfl, ht]
    exact .sl rfl (by simp [hn]) (by rw [hn, Nat.sub_zero, List.drop_zero, List.take_of_length_le (by simp)])
  · rw [if_neg h1]; exact .any _
end rows
end Go.Pm
