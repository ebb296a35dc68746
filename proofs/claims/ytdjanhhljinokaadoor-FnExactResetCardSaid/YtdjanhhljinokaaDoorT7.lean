/- The abstract machine, twenty-sixth text: steps of drawn regions with effects; steps in states that are known by facts about them. -/
import Derived.Test.YtdjanhhljinokaaDoorT6
import Derived.Test.YtdjanhhljinokaaDoorT5
import Derived.Sort.Grow
import Derived.Deep.Draws
import Derived.Laws.IdiomStrings
import Derived.Below
set_option linter.unusedVariables false
set_option linter.unusedSimpArgs false
namespace Go.Pm
attribute [local irreducible] AR Ok inBlock andThen endQ aoper
section
variable {X : Cfg} {nt : Nat} {ops : Array Oper} {T : Nat → Prop} {es : List Nat} {n : Nat} {rest : List Oper} {Q : Exit → Env → St → Prop} {env : Env} {σ σ' : St} {dst : Option Tmp} {op : Op} {ty : TypeId} {pos : String} {after : Array Edge} {r : AV}
theorem Wx {K' : Env → St → Prop} (h : K' env σ) : ADE X nt ops T es (andThen K' Q) n [] env σ := ⟨env, σ, .nil n env σ, x_normal_then h⟩
theorem Wy (h : Q .normal env σ) : ADE X nt ops T es Q n [] env σ := ⟨env, σ, .nil n env σ, h⟩
theorem ade_op {o : Oper} (h : OpAtT X nt ops T σ o env r) (k : ADE X nt ops T es Q (n + 1) rest (put env o.dst r) σ) (hne : es.contains n = false) : ADE X nt ops T es Q n (o :: rest) env σ := by
  obtain ⟨E, σF, h1, h2⟩ := k
  exact ⟨E, σF, .op hne h h1, h2⟩
/-- An operation that looks at no object. -/
theorem Wa (k : ADE X nt ops T es Q (n + 1) rest (put env dst r) σ) (hs : ∀ σ', astep X env σ' op = some (r, σ') := by intro _; exact rfl) (hd : dst.all (· < nt) = true := by exact rfl) (hne : es.contains n = false := by exact rfl) : ADE X nt ops T es Q n (⟨dst, op, ty, pos, after, none⟩ :: rest) env σ :=
  ade_op (o := ⟨dst, op, ty, pos, after, none⟩) ⟨hd, fun σ' _ => op_step (hs σ') ⟨rfl, rfl⟩⟩ k hne
theorem Wn {x : Operand} (k : ADE X nt ops T es Q (n + 1) rest (put env dst r) σ) (ha : anil (aev X env x) = true := by exact rfl) (hr : (aev X env x).force = some r := by exact rfl) (hd : dst.all (· < nt) = true := by exact rfl) (hne : es.contains n = false := by exact rfl) : ADE X nt ops T es Q n (⟨dst, .nilCheck x, ty, pos, after, none⟩ :: rest) env σ :=
  ade_op (o := ⟨dst, .nilCheck x, ty, pos, after, none⟩) ⟨hd, fun σ' _ => by simp only [aoper, aop]; exact ⟨ha, trivial, force_eq hr⟩⟩ k hne
/-- A cell behind a pointer to an object that stays. -/
theorem Wl {p : Operand} {i off t : Nat} {cells : List AV} {ti : TI} (ho : σ.obj i = some (.var cells)) (hT : T i) (k : ADE X nt ops T es Q (n + 1) rest (put env dst r) σ) (hp : aev X env p = .ref i off := by exact rfl) (ht : X.T t = some ti := by exact rfl)
    (hc : pieceF (isAggK ti.kind) cells off ti.size = some r := by exact rfl) (hd : dst.all (· < nt) = true := by exact rfl) (hne : es.contains n = false := by exact rfl) : ADE X nt ops T es Q n (⟨dst, .load t p, ty, pos, after, none⟩ :: rest) env σ :=
  ade_op (o := ⟨dst, .load t p, ty, pos, after, none⟩) ⟨hd, fun σ' hag => by
    simp only [aoper, aop, aload]
    exact ⟨ti, ht, (cells, off), by simp only [hp, behind, hag i hT, ho], r, pieceF_eq hc, trivial, rfl⟩⟩ k hne
/-- An operation that turns objects. -/
theorem We (h : aoper X op env σ (fun _ _ _ => False) fun v σ2 => σ2 = σ' ∧ v = r) (hT : rest = [] ∨ ∀ j, T j → σ'.obj j = σ.obj j) (k : ADE X nt ops T es Q (n + 1) rest (put env dst r) σ') (hd : dst.all (· < nt) = true := by exact rfl) (he : es.contains n = true := by exact rfl) :
    ADE X nt ops T es Q n (⟨dst, op, ty, pos, after, none⟩ :: rest) env σ := by
  obtain ⟨E, σF, h1, h2⟩ := k
  exact ⟨E, σF, .eff (o := ⟨dst, op, ty, pos, after, none⟩) he hd rfl h hT h1, h2⟩
end
section
variable {X : Cfg} {nt : Nat} {Q : Exit → Env → St → Prop} {K : AV → St → Prop} {env : Env} {σ σ' : St} {r : AV}
theorem nil_check {x : Operand} (k : K r σ) (ha : anil (aev X env x) = true := by exact rfl) (hr : (aev X env x).force = some r := by exact rfl) : aoper X (.nilCheck x) env σ Q K := by
  simp only [aoper, aop]
  refine ⟨ha, ?_⟩
  rw [force_eq hr]; exact k
/-- A cell behind a pointer. -/
theorem Ys {p : Operand} {i off t : Nat} {cells : List AV} {ti : TI} (ho : σ.obj i = some (.var cells)) (hK : K r σ) (hp : aev X env p = .ref i off := by exact rfl) (ht : X.T t = some ti := by exact rfl) (hc : pieceF (isAggK ti.kind) cells off ti.size = some r := by exact rfl) : aoper X (.load t p) env σ Q K := by
  simp only [aoper, aop, aload]
  exact ⟨ti, ht, (cells, off), by simp only [hp, behind, ho], r, pieceF_eq hc, hK⟩
/-- A store behind a pointer. -/
theorem Yt {p x : Operand} {i off t : Nat} {cells cs m : List AV} {ti : TI} (ho : σ.obj i = some (.var cells)) (hK : K (.d (.s undef)) (σ.set i (.var m))) (hp : aev X env p = .ref i off := by exact rfl) (ht : X.T t = some ti := by exact rfl) (hx : cellsF (aev X env x) = some cs := by exact rfl)
    (h1 : (decide (cs.length = ti.size) && cs.all AV.one) = true := by exact rfl) (hm : spliceF cells off cs = some m := by exact rfl) : aoper X (.store t p x) env σ Q K := by
  simp only [aoper, aop, astore]
  simp only [Bool.and_eq_true, decide_eq_true_eq] at h1
  obtain ⟨h3, h4⟩ := spliceF_eq hm
  refine ⟨ti, ht, cs, cellsF_eq hx, h1.1, h1.2, ?_⟩
  simp only [hp]
  exact ⟨cells, ho, by rw [← h1.1]; exact h4, by rw [h3]; exact hK⟩
theorem Yu {e i : Nat} {ti : TI} {cs : List AV} (hK : K (.ref i 0) (σ.alloc (.var cs))) (ht : X.T e = some ti := by exact rfl) (hc : listF (zrow ti) = some cs := by exact rfl) (hi : σ.next = i := by exact rfl) : aoper X (.alloc e) env σ Q K := by
  subst hi
  have hc := listF_eq hc
  subst hc
  simp only [aoper, aop, aalloc]
  exact ⟨ti, ht, hK⟩
theorem Yv {e i : Nat} {x : Operand} {cs : List AV} (hK : K (.ref i 0) (σ.alloc (.var cs))) (hc : cellsF (aev X env x) = some cs := by exact rfl) (h1 : cs.all AV.one = true := by exact rfl) (hi : σ.next = i := by exact rfl) : aoper X (.box e x) env σ Q K := by
  subst hi
  simp only [aoper, aop, abox]
  exact ⟨cs, cellsF_eq hc, h1, hK⟩
theorem Yw {t len n sz : Nat} {ps : Array (Nat × Operand)} {ti te : TI} {e : Nat} {rows : List (List AV)} (h : K (.sl n n 0 len) (σ.alloc (.row n e sz rows))) (ht : X.T t = some ti := by exact rfl) (hk : ti.kind = .slice e := by exact rfl) (hte : X.T e = some te := by exact rfl) (hsz : te.size = sz := by exact rfl) (hp : Nat.blt 0 sz = true := by exact rfl)
    (hb : Nat.ble (len * sz) 16777216 = true := by exact rfl) (hr : fillRows sz (List.replicate len (zrow te)) (ps.toList.map fun p => (p.1, aev X env p.2)) = some rows := by exact rfl) (hn : σ.next = n := by exact rfl) : aoper X (.buildSlice t len ps) env σ Q K := by
  subst hn
  subst hsz
  simp only [aoper, aop, abuildSlice]
  exact ⟨ti, ht, e, te, hk, hte, blt_lt hp, Nat.le_of_ble_eq_true hb, rows, hr, h⟩
/-- A slice that may be nil. -/
def slcN (i h n : Nat) : AV := if n = 0 then .d (.s (.slice none 0 0)) else .sl i h 0 n
theorem slcN_pos {i h n : Nat} (hn : n ≠ 0) : slcN i h n = .sl i h 0 n := if_neg hn
theorem slcN_zero (i h : Nat) : slcN i h 0 = .d (.s (.slice none 0 0)) := rfl
/-- One element more, at the end of a slice that may be nil; the element comes as a row of its own. -/
theorem app1 {α : Type} {f : α → List AV} {l : List α} {y : α} {i h k v t tx el sz : Nat} {ti te tix : TI} {s x : Operand} {as : Array Operand} {ts : Array TypeId} (ho : l ≠ [] → σ.obj i = some (.row h el sz (l.map f))) (hk : σ.obj k = some (.row v el sz [f y])) (hf : ∀ z, (f z).length = sz)
    (hK : ∀ i' σ', i' = (if l = [] then σ.next else i) → σ'.obj i' = some (.row σ.next el sz ((l ++ [y]).map f)) → (∀ j, j ≠ i' → σ'.obj j = σ.obj j) → σ'.next = σ.next + 1 → K (.sl i' σ.next 0 (l.length + 1)) σ')
    (h1 : as.toList = [s, x] := by exact rfl) (h2 : ts.toList = [t, tx] := by exact rfl) (hs : aev X env s = slcN i h l.length := by exact rfl) (hx : aev X env x = .sl k v 0 1 := by exact rfl) (ht : X.T t = some ti := by exact rfl) (hkd : ti.kind = .slice el := by exact rfl) (hte : X.T el = some te := by exact rfl) (hsz : te.size = sz := by exact rfl) (hp : Nat.blt 0 sz = true := by exact rfl)
    (hpb : Nat.blt 0 te.bytes = true := by exact rfl) (htx : X.T tx = some tix := by exact rfl) (hkx : tix.kind = .slice el := by exact rfl) (hbb : Nat.ble te.bytes 1024 = true := by exact rfl) (hb : l.length ≤ 2097152 := by omega) : aoper X (.call ⟨.builtin .append, as, ts⟩) env σ Q K := by
  subst hsz
  have hb : (l.length + 1) * te.bytes ≤ 140737488355328 := Nat.le_trans (Nat.mul_le_mul (show l.length + 1 ≤ 2097153 by omega) (Nat.le_of_ble_eq_true hbb)) (by decide)
  simp only [aoper, h1, h2, abuiltin, aappend]
  refine ⟨ti, ht, el, te, hkd, hte, blt_lt hp, blt_lt hpb, tix, htx, [f y], ?_, ?_, ?_⟩
  · rw [hkx, hx]; simp [srcOf, rowsOf, hk]
  · intro r hr
    simp only [List.mem_singleton] at hr
    subst hr; exact hf y
  · rw [hs]
    by_cases hl : l = []
    · subst hl
      simp only [List.length_nil, slcN_zero, List.length_singleton]
      refine ⟨by simpa using hb, hK σ.next (σ.alloc (.row σ.next el te.size [f y])) (by simp) (by simp [St.alloc]) (fun j hj => by simp [St.alloc, hj]) rfl⟩
    · have hn : l.length ≠ 0 := fun h => hl (List.eq_nil_of_length_eq_zero h)
      simp only [slcN_pos hn, List.length_singleton]
      refine ⟨trivial, _, ho hl, by simp, hb, hK i (bumpSet σ i _) (by simp [hl]) ?_ (fun j hj => by simp [bumpSet, hj]) rfl⟩
      simp [bumpSet, List.take_of_length_le]
/-- A slice that is nil till it is written. -/
def slcB (b : Bool) (i h n : Nat) : AV := if b then .sl i h 0 n else .d (.s (.slice none 0 0))
theorem Yx2 {b : Bool} {i h n : Nat} {x : Operand} {t el : Nat} {ti : TI} {as : Array Operand} {ts : Array TypeId} (hn : b = false → n = 0) (hK : K (vi n) σ) (h1 : as.toList = [x] := by exact rfl) (h2 : ts.toList = [t] := by exact rfl) (hx : aev X env x = slcB b i h n := by exact rfl) (ht : X.T t = some ti := by exact rfl) (hk' : ti.kind = .slice el := by exact rfl) : aoper X (.call ⟨.builtin .len, as, ts⟩) env σ Q K := by
  simp only [aoper, h1, h2, abuiltin, alen]
  refine ⟨ti, ht, ?_⟩
  simp only [hk', hx]
  cases b with
  | false => have := hn rfl; subst this; exact hK
  | true => exact hK
/-- One element more, where the rows may be longer than the slice. -/
theorem app2 {α : Type} {f : α → List AV} {l : List α} {y : α} {b : Bool} {rows : List (List AV)} {i h k v t tx el sz n : Nat} {ti te tix : TI} {s x : Operand} {as : Array Operand} {ts : Array TypeId} (hl : b = false → l = []) (hn : n = l.length) (ho : b = true → σ.obj i = some (.row h el sz rows) ∧ rows.take n = l.map f ∧ n ≤ rows.length) (hk : σ.obj k = some (.row v el sz [f y])) (hf : ∀ z, (f z).length = sz)
    (hK : ∀ i' σ', i' = (if b then i else σ.next) → σ'.obj i' = some (.row σ.next el sz ((l ++ [y]).map f)) → (∀ j, j ≠ i' → σ'.obj j = σ.obj j) → σ'.next = σ.next + 1 → K (.sl i' σ.next 0 (n + 1)) σ')
    (h1 : as.toList = [s, x] := by exact rfl) (h2 : ts.toList = [t, tx] := by exact rfl) (hs : aev X env s = slcB b i h n := by exact rfl) (hx : aev X env x = .sl k v 0 1 := by exact rfl) (ht : X.T t = some ti := by exact rfl) (hkd : ti.kind = .slice el := by exact rfl) (hte : X.T el = some te := by exact rfl) (hsz : te.size = sz := by exact rfl) (hp : Nat.blt 0 sz = true := by exact rfl)
    (hpb : Nat.blt 0 te.bytes = true := by exact rfl) (htx : X.T tx = some tix := by exact rfl) (hkx : tix.kind = .slice el := by exact rfl) (hbb : Nat.ble te.bytes 1024 = true := by exact rfl) (hb : n ≤ 2097152 := by omega) : aoper X (.call ⟨.builtin .append, as, ts⟩) env σ Q K := by
  subst hsz
  have hb : (n + 1) * te.bytes ≤ 140737488355328 := Nat.le_trans (Nat.mul_le_mul (show n + 1 ≤ 2097153 by omega) (Nat.le_of_ble_eq_true hbb)) (by decide)
  simp only [aoper, h1, h2, abuiltin, aappend]
  refine ⟨ti, ht, el, te, hkd, hte, blt_lt hp, blt_lt hpb, tix, htx, [f y], ?_, ?_, ?_⟩
  · rw [hkx, hx]; simp [srcOf, rowsOf, hk]
  · intro r hr
    simp only [List.mem_singleton] at hr
    subst hr; exact hf y
  · rw [hs]
    cases b with
    | false =>
      have := hl rfl
      subst this
      simp only [List.length_nil] at hn
      subst hn
      simp only [slcB, Bool.false_eq_true, if_false, List.length_singleton]
      refine ⟨by simpa using hb, hK σ.next (σ.alloc (.row σ.next el te.size [f y])) (by simp) (by simp [St.alloc]) (fun j hj => by simp [St.alloc, hj]) rfl⟩
    | true =>
      obtain ⟨o1, o2, o3⟩ := ho rfl
      simp only [slcB, if_true, List.length_singleton]
      refine ⟨trivial, _, o1, o3, hb, hK i (bumpSet σ i _) (by simp) ?_ (fun j hj => by simp [bumpSet, hj]) rfl⟩
      simp [bumpSet, o2]
/-- The first k of a slice. -/
theorem Yz {x y : Operand} {t i v hi e sz : Nat} {n : Int} {ti te : TI} {rows : List (List AV)} (k : Nat) (ho : σ.obj i = some (.row v e sz rows)) (hn : n = (k : Int)) (hle : k ≤ hi) (hK : K (.sl i v 0 k) σ) (hx : aev X env x = .sl i v 0 hi := by exact rfl) (hy : aev X env y = vi n := by exact rfl) (ht : X.T t = some ti := by exact rfl) (hk : ti.kind = .slice e := by exact rfl)
    (hte : X.T e = some te := by exact rfl) (hsz : te.size = sz := by exact rfl) : aoper X (.slice t x none (some y) none) env σ Q K := by
  subst hn
  subst hsz
  simp only [aoper, aop, aslice, Option.map_none, Option.map_some]
  refine ⟨ti, ht, none, rfl, some (k : Int), by rw [hy]; rfl, ?_⟩
  simp only [hk, hx, Option.getD_none, Option.getD_some, Nat.sub_zero, Int.toNat_zero, Nat.add_zero, Int.toNat_natCast, Nat.zero_add]
  exact ⟨Int.le_refl _, Int.natCast_nonneg _, by omega, ⟨te, rows, hte, ho⟩, hK⟩
/-- The state behind an append of one element. -/
def appS (σ : St) (b : Bool) (i : Nat) (o : AO) : St := if b then σ.alloc o else bumpSet σ i o
theorem appS_self {σ : St} {b : Bool} {i : Nat} {o : AO} : (appS σ b i o).obj (if b then σ.next else i) = some o := by cases b <;> simp [appS, St.alloc, bumpSet]
theorem appS_ne {σ : St} {b : Bool} {i j : Nat} {o : AO} (h : j ≠ (if b then σ.next else i)) : (appS σ b i o).obj j = σ.obj j := by
  cases b
  · have h : j ≠ i := h
    simp [appS, bumpSet, h]
  · have h : j ≠ σ.next := h
    simp [appS, St.alloc, h]
theorem appS_next {σ : St} {b : Bool} {i : Nat} {o : AO} : (appS σ b i o).next = σ.next + 1 := by cases b <;> rfl
theorem app1d {α : Type} {f : α → List AV} {l : List α} {y : α} {i h k v t tx el sz : Nat} {ti te tix : TI} {s x : Operand} {as : Array Operand} {ts : Array TypeId} (ho : l ≠ [] → σ.obj i = some (.row h el sz (l.map f))) (hk : σ.obj k = some (.row v el sz [f y])) (hf : ∀ z, (f z).length = sz)
    (hK : K (.sl (if l.isEmpty then σ.next else i) σ.next 0 (l.length + 1)) (appS σ l.isEmpty i (.row σ.next el sz ((l ++ [y]).map f))))
    (h1 : as.toList = [s, x] := by exact rfl) (h2 : ts.toList = [t, tx] := by exact rfl) (hs : aev X env s = slcN i h l.length := by exact rfl) (hx : aev X env x = .sl k v 0 1 := by exact rfl) (ht : X.T t = some ti := by exact rfl) (hkd : ti.kind = .slice el := by exact rfl) (hte : X.T el = some te := by exact rfl) (hsz : te.size = sz := by exact rfl) (hp : Nat.blt 0 sz = true := by exact rfl)
    (hpb : Nat.blt 0 te.bytes = true := by exact rfl) (htx : X.T tx = some tix := by exact rfl) (hkx : tix.kind = .slice el := by exact rfl) (hbb : Nat.ble te.bytes 1024 = true := by exact rfl) (hb : l.length ≤ 2097152 := by omega) : aoper X (.call ⟨.builtin .append, as, ts⟩) env σ Q K := by
  subst hsz
  have hb : (l.length + 1) * te.bytes ≤ 140737488355328 := Nat.le_trans (Nat.mul_le_mul (show l.length + 1 ≤ 2097153 by omega) (Nat.le_of_ble_eq_true hbb)) (by decide)
  simp only [aoper, h1, h2, abuiltin, aappend]
  refine ⟨ti, ht, el, te, hkd, hte, blt_lt hp, blt_lt hpb, tix, htx, [f y], ?_, ?_, ?_⟩
  · rw [hkx, hx]; simp [srcOf, rowsOf, hk]
  · intro r hr
    simp only [List.mem_singleton] at hr
    subst hr; exact hf y
  · rw [hs]
    cases l with
    | nil =>
      simp only [List.length_nil, slcN_zero, List.length_singleton]
      exact ⟨by simpa using hb, hK⟩
    | cons z l =>
      simp only [List.length_cons, slcN_pos (Nat.succ_ne_zero _), List.length_singleton]
      refine ⟨trivial, _, ho (by simp), by simp, by simpa using hb, ?_⟩
      have e1 : List.take (l.length + 1) (List.map f (z :: l)) ++ [f y] = ((z :: l) ++ [y]).map f := by rw [List.take_of_length_le (by simp)]; simp
      rw [e1]
      exact hK
theorem op_cfun {k : FuncId} {args caps : List AV} {KK : AEnd → St → Prop} {as : Array Operand} {ts : Array TypeId} {f : Operand} (h : AFun X k args σ KK) (hk : ∀ E σ', KK E σ' → ∃ r, E = .ret r ∧ K r σ') (hf : aev X env f = .fn k caps := by exact rfl) (ha : as.toList.map (aev X env) ++ caps = args := by exact rfl) : aoper X (.call ⟨.value f, as, ts⟩) env σ Q K := by
  subst ha
  simp only [aoper, hf, acallee, acall]
  refine h.mono fun E σ' h' => ?_
  obtain ⟨r, rfl, h2⟩ := hk E σ' h'
  exact h2
/-- A cell behind a pointer, as it stands. -/
theorem Yr {p : Operand} {i off t : Nat} {cells : List AV} {ti : TI} (ho : σ.obj i = some (.var cells)) (hK : K r σ) (hp : aev X env p = .ref i off := by exact rfl) (ht : X.T t = some ti := by exact rfl) (hc : piece (isAggK ti.kind) cells off ti.size = some r := by exact rfl) : aoper X (.load t p) env σ Q K := by
  simp only [aoper, aop, aload]
  exact ⟨ti, ht, (cells, off), by simp only [hp, behind, ho], r, hc, hK⟩
theorem ret0 {K : AEnd → St → Prop} (h : K (.ret (.tup [])) σ) : endQ X #[].toList K .ret env σ := by unfold endQ; exact h
theorem nrm0 {K : AEnd → St → Prop} (h : K (.ret (.tup [])) σ) : endQ X #[].toList K .normal env σ := by unfold endQ; exact h
theorem ret2 {s t : Nat} {K : AEnd → St → Prop} {x y : AV} (h : K (.ret (.tup [x, y])) σ) (hx : (env s).force = some x := by exact rfl) (hy : (env t).force = some y := by exact rfl) : endQ X #[.tmp s, .tmp t].toList K .ret env σ := by
  rw [← force_eq hx, ← force_eq hy] at h
  unfold endQ; exact h
/-- A place of a row that is known by a fact. -/
theorem Yi1 {t i v hi el sz : Nat} {n : Int} {ti te : TI} {rows : List (List AV)} {x y : Operand} (k : Nat) (ho : σ.obj i = some (.row v el sz rows)) (hn : n = (k : Int)) (hlt : k < hi) (h : K (.ep i v k 0) σ) (hx : aev X env x = .sl i v 0 hi := by exact rfl) (hy : aev X env y = vi n := by exact rfl) (ht : X.T t = some ti := by exact rfl) (hk : ti.kind = .slice el := by exact rfl)
    (hte : X.T el = some te := by exact rfl) (hsz : te.size = sz := by exact rfl) : aoper X (.indexAddr t x y) env σ Q K := by
  subst hn
  subst hsz
  exact op_place hx hy hlt ht hk hte ho h
theorem Ye1 {cells : List AV} {rows : List (List AV)} {p : Operand} {i v k el sz t : Nat} {ti : TI} (ho : σ.obj i = some (.row v el sz rows)) (hr : rows[k]? = some cells) (hK : K r σ) (hp : aev X env p = .ep i v k 0 := by exact rfl) (ht : X.T t = some ti := by exact rfl)
    (hc : pieceF (isAggK ti.kind) cells 0 ti.size = some r := by exact rfl) : aoper X (.load t p) env σ Q K := Ye hr hK hp ho ht hc
end
section
variable {X : Cfg} {nt : Nat} {ops : Array Oper} {T : Nat → Prop} {es : List Nat} {n : Nat} {rest : List Oper} {Q : Exit → Env → St → Prop} {env : Env} {σ σ' : St} {dst : Option Tmp} {op : Op} {ty : TypeId} {pos : String} {after : Array Edge} {r : AV}
theorem Wr {p : Operand} {i off t : Nat} {cells : List AV} {ti : TI} (ho : σ.obj i = some (.var cells)) (hT : T i) (k : ADE X nt ops T es Q (n + 1) rest (put env dst r) σ) (hp : aev X env p = .ref i off := by exact rfl) (ht : X.T t = some ti := by exact rfl)
    (hc : piece (isAggK ti.kind) cells off ti.size = some r := by exact rfl) (hd : dst.all (· < nt) = true := by exact rfl) (hne : es.contains n = false := by exact rfl) : ADE X nt ops T es Q n (⟨dst, .load t p, ty, pos, after, none⟩ :: rest) env σ :=
  ade_op (o := ⟨dst, .load t p, ty, pos, after, none⟩) ⟨hd, fun σ' hag => by
    simp only [aoper, aop, aload]
    exact ⟨ti, ht, (cells, off), by simp only [hp, behind, hag i hT, ho], r, hc, trivial, rfl⟩⟩ k hne
end
end Go.Pm
/- The abstract machine, twenty-seventh text: calls that only look at objects; nil slices that become rows. -/
set_option linter.unusedVariables false
set_option linter.unusedSimpArgs false
namespace Go.Pm
attribute [local irreducible] AR Ok inBlock andThen endQ aoper
/-- A state that is the old one below its end is the old one. -/
theorem AFun.same {X : Cfg} {f : FuncId} {args : List AV} {σ : St} {r : AV} (h : AFun X f args σ fun E σ' => E = .ret r ∧ σ'.next = σ.next ∧ ∀ j, j < σ.next → σ'.obj j = σ.obj j) : AFun X f args σ fun E σ' => E = .ret r ∧ σ' = σ := by
  refine ⟨h.1, fun F η w vals hg hf hs hn hv => (h.2 F η w vals hg hf hs hn hv).mono ?_⟩
  rintro e w' ⟨F', η', σ1, E, st, hf', hs1, he, rfl, hnx, hob⟩
  have hle : ∀ j o, σ.obj j = some o → σ1.obj j = some o := fun j o hj => by rw [hob j (hs.lt j o hj)]; exact hj
  refine ⟨F', η', σ, _, ⟨st.fh, st.et, Nat.le_refl _, st.gr, st.fm, fun i o b ho => st.nw i o b (hle i o ho), st.nf⟩, hf', ⟨hs.lt, fun i o ho => by rw [← hnx]; exact hs1.ob i o (hle i o ho), fun i j oi oj b hi hj => hs1.ap i j oi oj b (hle i oi hi) (hle j oj hj), fun i o b ho => hs1.fr i o b (hle i o ho)⟩, ?_, rfl, rfl⟩
  rw [hnx] at he; exact he
/-- What is known of a call's end, with fewer objects. -/
theorem AFun.low' {X : Cfg} {f : FuncId} {args : List AV} {σ : St} {K K' : AEnd → St → Prop} (h : AFun X f args σ K)
    (hk : ∀ E σ1, K E σ1 → σ.next ≤ σ1.next → ∃ σ2, K' E σ2 ∧ σ.next ≤ σ2.next ∧ σ2.next ≤ σ1.next ∧ (∀ i o, σ2.obj i = some o → i < σ2.next ∧ σ1.obj i = some o ∧ o.low σ2.next) ∧ (∀ r, E = .ret r → Pm.low σ2.next r = true)) : AFun X f args σ K' := by
  refine ⟨h.1, fun F η w vals hg hf hs hn hv => (h.2 F η w vals hg hf hs hn hv).mono ?_⟩
  rintro e w' ⟨F', η', σ1, E, st, hf', hs1, he, hK⟩
  obtain ⟨σ2, h1, h2, h3, h4, h6⟩ := hk E σ1 hK st.nx
  refine ⟨F', η', σ2, E, ⟨st.fh, st.et, h2, st.gr, st.fm, fun i o b ho => st.nw i o b (h4 i o ho).2.1, st.nf⟩, hf', ⟨fun i o ho => (h4 i o ho).1, fun i o ho => low_orel (hs1.ob i o (h4 i o ho).2.1) (h4 i o ho).2.2, fun i j oi oj b hi hj => hs1.ap i j oi oj b (h4 i oi hi).2.1 (h4 j oj hj).2.1, fun i o b ho => hs1.fr i o b (h4 i o ho).2.1⟩, ?_, h1⟩
  cases E with
  | ret r =>
    cases e with
    | returned v => exact low_rel he (h6 r rfl)
    | panicked c => exact he.elim
    | outgrown => exact he.elim
  | pan c =>
    cases e with
    | returned v => exact he.elim
    | panicked c' => exact he
    | outgrown => exact he.elim
mutual
theorem ren_ext {n : Nat} {π ρ : Nat → Nat} (h : ∀ j, j < n → ρ j = π j) : ∀ x : AV, low n x = true → ren ρ x = ren π x
  | .d x, _ => rfl
  | .agg cs, hl => by simp only [low] at hl; simp only [ren, rens_ext h cs hl]
  | .tup cs, hl => by simp only [low] at hl; simp only [ren, rens_ext h cs hl]
  | .ref i off, hl => by simp only [low, decide_eq_true_eq] at hl; simp only [ren, h i hl]
  | .sl i v lo hi, hl => by simp only [low, Bool.and_eq_true, decide_eq_true_eq] at hl; simp only [ren, h i hl.1, h v hl.2]
  | .ep i v k off, hl => by simp only [low, Bool.and_eq_true, decide_eq_true_eq] at hl; simp only [ren, h i hl.1, h v hl.2]
  | .mp i, hl => by simp only [low, decide_eq_true_eq] at hl; simp only [ren, h i hl]
  | .it i, hl => by simp only [low, decide_eq_true_eq] at hl; simp only [ren, h i hl]
  | .fn f caps, hl => by simp only [low] at hl; simp only [ren, rens_ext h caps hl]
  | .ifc t x, hl => by simp only [low] at hl; simp only [ren, ren_ext h x hl]
  | .any, _ => rfl
theorem rens_ext {n : Nat} {π ρ : Nat → Nat} (h : ∀ j, j < n → ρ j = π j) : ∀ cs : List AV, lows n cs = true → rens ρ cs = rens π cs
  | [], _ => rfl
  | c :: cs, hl => by simp only [lows, Bool.and_eq_true] at hl; simp only [rens, ren_ext h c hl.1, rens_ext h cs hl.2]
end
theorem renO_ext {n : Nat} {π ρ : Nat → Nat} (h : ∀ j, j < n → ρ j = π j) {o : AO} (hl : o.low n) : renO ρ o = renO π o := by
  cases o with
  | var cells => simp only [renO, rens_ext h cells hl]
  | row v E sz rows =>
    simp only [renO, h v hl.1]
    congr 1
    exact List.map_congr_left fun r hr => rens_ext h r (hl.2 r hr)
  | map k es =>
    simp only [renO]
    congr 1
    exact List.map_congr_left fun e he => by rw [ren_ext h e.2 (hl e he)]
  | iter o => rfl
  | box o => rfl
/-- A call that only looks at the objects that it is given gives the same in every state that holds them. -/
theorem AFun.ro {X : Cfg} {f : FuncId} {args : List AV} {r : AV} {O : List (Option AO)} (h : AFun X f args (stL O) fun E σ' => E = .ret r ∧ ∀ j, j < O.length → σ'.obj j = (stL O).obj j) (hO : ∀ (j : Nat) (o : AO), (O[j]?).join = some o → o.low O.length) (ha : lows O.length args = true) (hr : Pm.low O.length r = true) (π : Nat → Nat)
    (hi : ∀ (i j : Nat) (o o' : AO), (O[i]?).join = some o → (O[j]?).join = some o' → π i = π j → i = j) {σ : St} (hlt : ∀ j, j < O.length → π j < σ.next) (hob : ∀ (j : Nat) (o : AO), (O[j]?).join = some o → σ.obj (π j) = some (renO π o)) :
    AFun X f (rens π args) σ fun E σ' => E = .ret (ren π r) ∧ σ' = σ := by
  have hlen : ∀ j o, (O[j]?).join = some o → j < O.length := fun j o hj => by
    rcases Nat.lt_or_ge j O.length with h | h
    · exact h
    · rw [List.getElem?_eq_none h] at hj; cases hj
  have h1 : AFun X f args (stL O) fun E σ' => E = .ret r ∧ σ' = stL O := h.low' fun E σ1 ⟨he, hj⟩ hnx => ⟨stL O, ⟨he, rfl⟩, Nat.le_refl _, hnx, fun i o ho => ⟨hlen i o ho, by rw [hj i (hlen i o ho)]; exact ho, hO i o ho⟩, fun r' hr' => by rw [he] at hr'; cases hr'; exact hr⟩
  let κ : Nat → Option Nat := fun i => (List.range O.length).find? fun j => (π j == i) && ((O[j]?).join).isSome
  have hk2 : ∀ i j, κ i = some j → (π j = i ∧ ∃ o, (O[j]?).join = some o) ∧ j < O.length := by
    intro i j hj
    have a1 := List.find?_some hj
    have a2 := List.mem_range.1 (List.mem_of_find?_eq_some hj)
    simp only [Bool.and_eq_true, beq_iff_eq] at a1
    exact ⟨⟨a1.1, Option.isSome_iff_exists.1 a1.2⟩, a2⟩
  have hk1 : ∀ j o, (O[j]?).join = some o → κ (π j) = some j := by
    intro j o hj
    cases hq : κ (π j) with
    | none =>
      have := List.find?_eq_none.1 hq j (List.mem_range.2 (hlen j o hj))
      simp [hj] at this
    | some j' =>
      obtain ⟨⟨a1, o', a2⟩, _⟩ := hk2 _ _ hq
      rw [hi j' j o' o a2 hj a1]
  refine AFun.same ((AFun.frame h1 π κ hlt hlen (fun j o hj => ⟨hob j o hj, hO j o hj⟩) hk1 (fun i j hj => ⟨(hk2 i j hj).1.1, (hk2 i j hj).2⟩) ha).mono ?_)
  rintro E σ' ⟨E0, σ1, ⟨rfl, rfl⟩, rfl, rfl⟩
  have hext : ∀ j, j < O.length → ext (stL O).next σ.next π j = π j := fun j hj => if_pos hj
  refine ⟨by simp only [renE]; rw [ren_ext hext r hr], (by show σ.next + ((stL O).next - (stL O).next) = σ.next; omega), fun j hj => ?_⟩
  simp only [mrg, hj, if_true]
  cases hq : κ j with
  | none => rfl
  | some k =>
    obtain ⟨⟨a1, o, a2⟩, _⟩ := hk2 j k hq
    have a3 : (stL O).obj k = some o := a2
    simp only [a3, Option.map_some]
    rw [renO_ext hext (hO k o a2), ← a1, hob k o a2]
/-- A closure that is called in a drawn region. -/
theorem Wc {X : Cfg} {nt : Nat} {ops : Array Oper} {T : Nat → Prop} {es : List Nat} {n : Nat} {rest : List Oper} {Q : Exit → Env → St → Prop} {env : Env} {σ : St} {dst : Option Tmp} {ty : TypeId} {pos : String} {after : Array Edge} {r : AV} {k : FuncId} {args caps : List AV} {ars : Array Operand} {ts : Array TypeId} {f : Operand}
    (h : ∀ σ', (∀ j, T j → σ'.obj j = σ.obj j) → AFun X k args σ' fun E σ2 => E = .ret r ∧ σ2 = σ') (kk : ADE X nt ops T es Q (n + 1) rest (put env dst r) σ) (hf : aev X env f = .fn k caps := by exact rfl) (ha : ars.toList.map (aev X env) ++ caps = args := by exact rfl)
    (hd : dst.all (· < nt) = true := by exact rfl) (hne : es.contains n = false := by exact rfl) : ADE X nt ops T es Q n (⟨dst, .call ⟨.value f, ars, ts⟩, ty, pos, after, none⟩ :: rest) env σ :=
  ade_op (o := ⟨dst, .call ⟨.value f, ars, ts⟩, ty, pos, after, none⟩) ⟨hd, fun σ' hag => Yp (h σ' hag) ⟨rfl, rfl⟩ hf ha⟩ kk hne
end Go.Pm
/- The data of machines, and how they stand for rows of cells. -/
set_option linter.unusedVariables false
namespace Go.Pm
structure Slt where
  name : ByteArray
  type : Int
structure Sm where
  kind : Int
  name : ByteArray
  pos : Int
  outs : List ByteArray
  code : List Itm
  args : List (List Itm)
structure Cls where
  name : ByteArray
  ins : List Slt
  outs : List Slt
  locs : List ByteArray
  mems : List Int
  insts : List Int
  body : List Sm
def eNum (n : Int) : List D := [.s (.int .i64 n)]
def eSlt (x : Slt) : List D := [.s (.string x.name), .s (.int .i64 x.type)]
def eSm (x : Sm) : List D := [.s (.int .i64 x.kind), .s (.string x.name), .s (.int .i64 x.pos), .im (x.outs.map eStr), .im (x.code.map eItm), .im (x.args.map eItms)]
def eCls (x : Cls) : List D := [.s (.string x.name), .im (x.ins.map eSlt), .im (x.outs.map eSlt), .im (x.locs.map eStr), .im (x.mems.map eNum), .im (x.insts.map eNum), .im (x.body.map eSm)]
def wNum0 (_ : Int) : Nat := 0
theorem wNum0_sum : ∀ l : List Int, (l.map wNum0).sum = 0
  | [] => rfl
  | x :: l => by simp only [List.map_cons, List.sum_cons, wNum0_sum l, wNum0]
def wSlt (x : Slt) : Nat := x.name.size
def wSm (x : Sm) : Nat := x.name.size + wL wStr x.outs + wL wItm x.code + wL (wL wItm) x.args
def wCls (x : Cls) : Nat := x.name.size + wL wSlt x.ins + wL wSlt x.outs + wL wStr x.locs + wL wNum0 x.mems + wL wNum0 x.insts + wL wSm x.body
def dNums (l : List Int) : Prop := l.length ≤ mx
def dSlt (x : Slt) : Prop := x.name.size ≤ mx
def dSm (x : Sm) : Prop := x.name.size ≤ mx ∧ dL dStr x.outs ∧ dL dItm x.code ∧ dL (dL dItm) x.args
def dCls (x : Cls) : Prop := x.name.size ≤ mx ∧ dL dSlt x.ins ∧ dL dSlt x.outs ∧ dL dStr x.locs ∧ dNums x.mems ∧ dNums x.insts ∧ dL dSm x.body
end Go.Pm
/- The abstract machine, twenty-eighth text: more steps of drawn regions; states in which all objects lie below the end. -/
set_option linter.unusedVariables false
set_option linter.unusedSimpArgs false
namespace Go.Pm
attribute [local irreducible] AR Ok inBlock andThen endQ aoper
theorem AFun.wf {X : Cfg} {f : FuncId} {args : List AV} {σ : St} {K : AEnd → St → Prop} (hc : CallOk X.P f) (h : (∀ i o, σ.obj i = some o → i < σ.next) → AFun X f args σ K) : AFun X f args σ K :=
  ⟨hc, fun F η w vals hg hf hs => (h hs.lt).2 F η w vals hg hf hs⟩
mutual
theorem ren_idv : ∀ x : AV, ren (fun j => j) x = x
  | .d _ => rfl
  | .agg cs => by simp only [ren, rens_idv cs]
  | .tup cs => by simp only [ren, rens_idv cs]
  | .ref _ _ => rfl
  | .sl _ _ _ _ => rfl
  | .ep _ _ _ _ => rfl
  | .mp _ => rfl
  | .it _ => rfl
  | .fn _ cs => by simp only [ren, rens_idv cs]
  | .ifc _ x => by simp only [ren, ren_idv x]
  | .any => rfl
theorem rens_idv : ∀ cs : List AV, rens (fun j => j) cs = cs
  | [] => rfl
  | c :: cs => by simp only [rens, ren_idv c, rens_idv cs]
end
theorem renO_idv (o : AO) : renO (fun j => j) o = o := by
  cases o with
  | var cells => simp only [renO, rens_idv]
  | row v E sz rows =>
    simp only [renO]
    congr 1
    rw [show rows.map (rens fun j => j) = rows.map id from List.map_congr_left fun r _ => rens_idv r]
    exact List.map_id _
  | map k es =>
    simp only [renO]
    congr 1
    rw [show (es.map fun e => (e.1, ren (fun j => j) e.2)) = es.map id from List.map_congr_left fun e _ => by rw [ren_idv]; rfl]
    exact List.map_id _
  | iter o => rfl
  | box o => rfl
section
variable {X : Cfg} {nt : Nat} {ops : Array Oper} {T : Nat → Prop} {es : List Nat} {n : Nat} {rest : List Oper} {Q : Exit → Env → St → Prop} {env : Env} {σ σ' : St} {dst : Option Tmp} {op : Op} {ty : TypeId} {pos : String} {after : Array Edge} {r : AV}
/-- An operation that gives the same in every state with the objects of T. -/
theorem Wq (h : ∀ σ', (∀ j, T j → σ'.obj j = σ.obj j) → aoper X op env σ' (fun _ _ _ => False) fun v σ2 => σ2 = σ' ∧ v = r) (k : ADE X nt ops T es Q (n + 1) rest (put env dst r) σ)
    (hd : dst.all (· < nt) = true := by exact rfl) (hne : es.contains n = false := by exact rfl) : ADE X nt ops T es Q n (⟨dst, op, ty, pos, after, none⟩ :: rest) env σ :=
  ade_op (o := ⟨dst, op, ty, pos, after, none⟩) ⟨hd, h⟩ k hne
end
/-! ### nil slices that become rows -/
def OwnL (n : Nat) : List AV → List AV → Prop
  | [], [] => True
  | x :: xs, y :: ys => Own n x y ∧ OwnL n xs ys
  | _, _ => False
theorem OwnL.get {n : Nat} : ∀ {cs cs' : List AV}, OwnL n cs cs' → cs'.length = cs.length ∧ ∀ j (h1 : j < cs.length) (h2 : j < cs'.length), Own n cs[j] cs'[j]
  | [], [], _ => ⟨rfl, fun j h => by simp at h⟩
  | x :: xs, y :: ys, h => by
    obtain ⟨h1, h2⟩ := OwnL.get h.2
    refine ⟨by simp [h1], fun j a b => ?_⟩
    cases j with
    | zero => exact h.1
    | succ j => exact h2 j (by simpa using a) (by simpa using b)
  | [], _ :: _, h => h.elim
  | _ :: _, [], h => h.elim
theorem turn_ownv {X : Cfg} {nt : Nat} {env : Env} {σ : St} (i E sz : Nat) {cs cs' : List AV} (hp : Nat.blt 0 sz = true) (h : σ.obj i = some (.var cs)) (hi : (i == σ.next) = false) (hc : OwnL σ.next cs cs') : Turn X nt env σ env ((σ.alloc (.row σ.next E sz [])).set i (.var cs')) := by
  have hi : i ≠ σ.next := by simpa using hi
  refine turn_own E sz (blt_lt hp) rfl (by rw [St.obj_set, if_neg (Ne.symm hi), St.obj_alloc, if_pos rfl]) (fun j o' hj ho => ?_) fun t => .refl _
  rw [St.obj_set] at ho
  by_cases hji : j = i
  · subst hji
    rw [if_pos rfl] at ho
    cases ho
    exact ⟨_, h, hc.get⟩
  · rw [if_neg hji, St.obj_alloc, if_neg hj] at ho
    refine ⟨o', ho, ?_⟩
    cases o' with
    | var cs => exact ⟨rfl, fun j h1 h2 => .refl _⟩
    | row => rfl
    | map => rfl
    | iter => rfl
    | box => rfl
theorem turn_ownt {X : Cfg} {nt : Nat} {env : Env} {σ : St} (t E sz : Nat) (hp : Nat.blt 0 sz = true) (h : env t = .d (.s (.slice none 0 0)) := by exact rfl) : Turn X nt env σ (put env (some t) (.sl σ.next σ.next 0 0)) (σ.alloc (.row σ.next E sz [])) := by
  refine turn_own E sz (blt_lt hp) rfl (by rw [St.obj_alloc, if_pos rfl]) (fun j o' hj ho => ?_) fun t' => ?_
  · rw [St.obj_alloc, if_neg hj] at ho
    refine ⟨o', ho, ?_⟩
    cases o' with
    | var cs => exact ⟨rfl, fun j h1 h2 => .refl _⟩
    | row => rfl
    | map => rfl
    | iter => rfl
    | box => rfl
  · rw [put_some]
    by_cases ht : t' = t
    · subst ht; rw [if_pos rfl, h]; exact .nil
    · rw [if_neg ht]; exact .refl _
section
variable {X : Cfg} {nt : Nat} {Q : Exit → Env → St → Prop} {K : AV → St → Prop} {env : Env} {σ : St}
/-- Elements more, behind the first hi of a row. -/
theorem Yl2 {α : Type} {e : α → List D} {J : List α} (m : List α) {xrows : List (List D)} {as : Array Operand} {ts : Array TypeId} {s x : Operand} {t tx el i v n hi bb : Nat} {ti te tix : TI} (hle : hi ≤ J.length) (h : K (.sl i n 0 (hi + m.length)) (bumpSet σ i (.row n el te.size (im2 e (J.take hi ++ m)))))
    (h1 : as.toList = [s, x] := by exact rfl) (h2 : ts.toList = [t, tx] := by exact rfl) (hs : aev X env s = .sl i v 0 hi := by exact rfl) (ht : X.T t = some ti := by exact rfl) (hk : ti.kind = .slice el := by exact rfl) (hte : X.T el = some te := by exact rfl) (hp : Nat.blt 0 te.size = true := by exact rfl) (hpb : Nat.blt 0 te.bytes = true := by exact rfl)
    (htx : X.T tx = some tix := by exact rfl) (hkx : tix.kind = .slice el := by exact rfl) (ho : σ.obj i = some (.row v el te.size (im2 e J)) := by exact rfl) (hx : aev X env x = .d (.im xrows) := by exact rfl) (hxr : xrows = m.map e := by exact rfl) (hsz : ∀ y : α, (e y).length = te.size := by exact fun _ => rfl) (hn : natF σ.next = some n := by exact rfl)
    (hbb : te.bytes = bb := by exact rfl) (hb : (hi + m.length) * bb ≤ 140737488355328 := by first | omega | (simp only [List.length_cons, List.length_nil, List.length_append]; omega)) :
    aoper X (.call ⟨.builtin .append, as, ts⟩) env σ Q K := by
  subst hbb
  have hn := natF_eq hn
  subst hn
  subst hxr
  simp only [aoper, h1, h2, abuiltin, aappend]
  refine ⟨ti, ht, el, te, hk, hte, blt_lt hp, blt_lt hpb, tix, htx, im2 e m, by rw [hkx, hx]; rfl, ?_, ?_⟩
  · intro r hr
    simp only [im2, List.map_map, List.mem_map, Function.comp] at hr
    obtain ⟨y, _, rfl⟩ := hr
    simp [hsz]
  · simp only [hs]
    refine ⟨trivial, im2 e J, ho, by rw [im2_length]; exact hle, by rw [im2_length]; exact hb, ?_⟩
    have e1 : (im2 e J).take hi ++ im2 e m = im2 e (J.take hi ++ m) := by simp [im2, List.map_take]
    rw [e1, im2_length]
    exact h
/-- One element more, that lies in a row of its own. -/
theorem app3 {α : Type} {e : α → List D} {l : List α} {y : α} {i h k v t tx el sz : Nat} {ti te tix : TI} {s x : Operand} {as : Array Operand} {ts : Array TypeId} (ho : σ.obj i = some (.row h el sz (im2 e l))) (hk : σ.obj k = some (.row v el sz [(e y).map .d])) (hf : ∀ z, (e z).length = sz)
    (hK : K (.sl i σ.next 0 (l.length + 1)) (bumpSet σ i (.row σ.next el sz (im2 e (l ++ [y])))))
    (h1 : as.toList = [s, x] := by exact rfl) (h2 : ts.toList = [t, tx] := by exact rfl) (hs : aev X env s = .sl i h 0 l.length := by exact rfl) (hx : aev X env x = .sl k v 0 1 := by exact rfl) (ht : X.T t = some ti := by exact rfl) (hkd : ti.kind = .slice el := by exact rfl) (hte : X.T el = some te := by exact rfl) (hsz : te.size = sz := by exact rfl) (hp : Nat.blt 0 sz = true := by exact rfl)
    (hpb : Nat.blt 0 te.bytes = true := by exact rfl) (htx : X.T tx = some tix := by exact rfl) (hkx : tix.kind = .slice el := by exact rfl) (hbb : Nat.ble te.bytes 1024 = true := by exact rfl) (hb : l.length ≤ 2097152 := by omega) : aoper X (.call ⟨.builtin .append, as, ts⟩) env σ Q K := by
  subst hsz
  have hb : (l.length + 1) * te.bytes ≤ 140737488355328 := Nat.le_trans (Nat.mul_le_mul (show l.length + 1 ≤ 2097153 by omega) (Nat.le_of_ble_eq_true hbb)) (by decide)
  simp only [aoper, h1, h2, abuiltin, aappend]
  refine ⟨ti, ht, el, te, hkd, hte, blt_lt hp, blt_lt hpb, tix, htx, [(e y).map .d], ?_, ?_, ?_⟩
  · rw [hkx, hx]; simp [srcOf, rowsOf, hk]
  · intro r hr
    simp only [List.mem_singleton] at hr
    subst hr; simp [hf y]
  · simp only [hs, List.length_singleton]
    refine ⟨trivial, _, ho, by rw [im2_length]; exact Nat.le_refl _, hb, ?_⟩
    have e1 : (im2 e l).take l.length ++ [(e y).map .d] = im2 e (l ++ [y]) := by rw [List.take_of_length_le (by rw [im2_length]; exact Nat.le_refl _)]; simp [im2]
    rw [e1]
    exact hK
end
end Go.Pm
/- Forests of statements: what grow makes of a flat list. -/
set_option linter.unusedVariables false
set_option linter.unusedSimpArgs false
namespace Go.Pm
inductive Br where
  | nd (s : Sm) (yes no : List Br)
mutual
/-- A branch, behind a pointer. -/
def eBr : Br → List D
  | .nd s yes no => [.s (.int .i64 s.kind), .s (.string s.name), .s (.int .i64 s.pos), .im (s.outs.map eStr), .im (s.code.map eItm), .im (s.args.map eItms), .im (eBrs yes), .im (eBrs no)]
def eBrs : List Br → List (List D)
  | [] => []
  | b :: l => [.ip (eBr b) 0] :: eBrs l
end
def eBrP (b : Br) : List D := [.ip (eBr b) 0]
theorem eBrs_map : ∀ l : List Br, eBrs l = l.map eBrP
  | [] => rfl
  | b :: l => by simp only [eBrs, List.map_cons, eBrs_map l]; rfl
structure Fr where
  s : Sm
  els : Bool
  yes : List Br
  no : List Br
/-- A branch more, in the innermost open one. -/
def putF (b : Br) : List Fr → List Br → List Fr × List Br
  | [], R => ([], R ++ [b])
  | f :: st, R => ((if f.els then { f with no := f.no ++ [b] } else { f with yes := f.yes ++ [b] }) :: st, R)
def growGo : List Sm → List Fr → List Br → Option (List Br)
  | [], [], R => some R
  | [], _ :: _, _ => none
  | s :: l, st, R =>
    if s.kind = 4 then growGo l (⟨s, false, [], []⟩ :: st) R
    else if s.kind = 5 then
      match st with
      | [] => none
      | f :: st' => if f.els then none else growGo l ({ f with els := true } :: st') R
    else if s.kind = 6 then
      match st with
      | [] => none
      | f :: st' => if f.els then growGo l (putF (.nd f.s f.yes f.no) st' R).1 (putF (.nd f.s f.yes f.no) st' R).2 else none
    else growGo l (putF (.nd s [] []) st R).1 (putF (.nd s [] []) st R).2
def growI (l : List Sm) : Option (List Br) := growGo l [] []

/-! ### how forests lie in memory -/
structure Gn where
  s : Sm
  y : Nat
  hy : Nat
  n : Nat
  hn : Nat
  yes : List Nat
  no : List Nat
mutual
/-- Below the node a, of closed nodes, lies the tree. -/
def trB (nd : Nat → Option Gn) (op : Nat → Bool) : Br → Nat → Prop
  | .nd s ys ns, a => ∃ g, nd a = some g ∧ op a = false ∧ g.s = s ∧ trL nd op ys g.yes ∧ trL nd op ns g.no
def trL (nd : Nat → Option Gn) (op : Nat → Bool) : List Br → List Nat → Prop
  | [], [] => True
  | b :: bs, a :: l => trB nd op b a ∧ trL nd op bs l
  | _, _ => False
end
mutual
theorem trB_mono {nd nd' : Nat → Option Gn} {op op' : Nat → Bool} (h : ∀ b g, nd b = some g → op b = false → nd' b = some g ∧ op' b = false) : ∀ (t : Br) (a : Nat), trB nd op t a → trB nd' op' t a
  | .nd s ys ns, a, ht => by
    simp only [trB] at ht ⊢
    obtain ⟨g, h1, h2, h3, h4, h5⟩ := ht
    obtain ⟨h6, h7⟩ := h a g h1 h2
    exact ⟨g, h6, h7, h3, trL_mono h ys g.yes h4, trL_mono h ns g.no h5⟩
theorem trL_mono {nd nd' : Nat → Option Gn} {op op' : Nat → Bool} (h : ∀ b g, nd b = some g → op b = false → nd' b = some g ∧ op' b = false) : ∀ (ts : List Br) (l : List Nat), trL nd op ts l → trL nd' op' ts l
  | [], [], _ => by simp [trL]
  | b :: bs, a :: l, ht => by
    simp only [trL] at ht ⊢
    exact ⟨trB_mono h b a ht.1, trL_mono h bs l ht.2⟩
  | [], _ :: _, ht => by simp [trL] at ht
  | _ :: _, [], ht => by simp [trL] at ht
end
theorem trL_push {nd : Nat → Option Gn} {op : Nat → Bool} {t : Br} {a : Nat} (ht : trB nd op t a) : ∀ (ts : List Br) (l : List Nat), trL nd op ts l → trL nd op (ts ++ [t]) (l ++ [a])
  | [], [], _ => by simp [trL, ht]
  | b :: bs, c :: l, h => by
    simp only [trL] at h
    simp only [List.cons_append, trL]
    exact ⟨h.1, trL_push ht bs l h.2⟩
  | [], _ :: _, h => by simp [trL] at h
  | _ :: _, [], h => by simp [trL] at h
theorem trL_len {nd : Nat → Option Gn} {op : Nat → Bool} : ∀ (ts : List Br) (l : List Nat), trL nd op ts l → ts.length = l.length
  | [], [], _ => rfl
  | b :: bs, c :: l, h => by
    simp only [trL] at h
    simp [trL_len bs l h.2]
  | [], _ :: _, h => by simp [trL] at h
  | _ :: _, [], h => by simp [trL] at h

/-- An open node: its frame. -/
structure On where
  o : Nat
  a : Nat
  els : Bool
def frB (nd : Nat → Option Gn) (op : Nat → Bool) (f : Fr) (x : On) (yes no : List Nat) : Prop := ∃ g, nd x.a = some g ∧ op x.a = true ∧ g.s = f.s ∧ x.els = f.els ∧ g.yes = yes ∧ g.no = no
/-- The frames below an open node whose number is p. -/
def frP (nd : Nat → Option Gn) (op : Nat → Bool) : List Fr → List On → List Br → List Nat → Nat → Prop
  | [], [], R, cs, p => ∃ l, cs = l ++ [p] ∧ trL nd op R l
  | f :: fs, x :: st, R, cs, p => (∃ l m, frB nd op f x (if x.els then l else l ++ [p]) (if x.els then m ++ [p] else m) ∧ trL nd op f.yes l ∧ trL nd op f.no m) ∧ frP nd op fs st R cs x.a
  | _, _, _, _, _ => False
/-- The frames, the innermost first. -/
def frS (nd : Nat → Option Gn) (op : Nat → Bool) : List Fr → List On → List Br → List Nat → Prop
  | [], [], R, cs => trL nd op R cs
  | f :: fs, x :: st, R, cs => (∃ l m, frB nd op f x l m ∧ trL nd op f.yes l ∧ trL nd op f.no m) ∧ frP nd op fs st R cs x.a
  | _, _, _, _ => False
end Go.Pm
/- The abstract machine, twenty-ninth text: cuts (the ends of a piece of code brought to one table), parts of code. -/
set_option linter.unusedVariables false
set_option linter.unusedSimpArgs false
namespace Go.Pm
attribute [local irreducible] AR Ok inBlock andThen endQ aoper
theorem ok_cut {X : Cfg} {nt : Nat} {Q : Exit → Env → St → Prop} {env : Env} {σ : St} {c1 c2 : Code} (E : Env) (S : St) (h1 : Ok X nt c1 (fun e env σ => e = .normal ∧ Turn X nt env σ E S) env σ) (h2 : Ok X nt c2 Q E S) : Ok X nt (.seq c1 c2) Q env σ := by
  refine ok_seq (ok_mono h1 ?_)
  rintro e env' σ' ⟨rfl, ht⟩
  exact x_normal_then (ok_turn ht h2)
/-- The part of a code at the end of a road. -/
def subc : List Bool → Code → Code
  | [], c => c
  | d :: p, .seq a b => subc p (if d then b else a)
  | d :: p, .cond _ a b => subc p (if d then b else a)
  | _ :: p, .block _ c => subc p c
  | _ :: p, .loop c => subc p c
  | _, c => c
def roadTo (id : Nat) : Code → Option (List Bool)
  | .seq a b => ((roadTo id a).map (false :: ·)).or ((roadTo id b).map (true :: ·))
  | .cond _ a b => ((roadTo id a).map (false :: ·)).or ((roadTo id b).map (true :: ·))
  | .block i c => if i = id then some [false] else (roadTo id c).map (false :: ·)
  | .loop c => (roadTo id c).map (false :: ·)
  | _ => none
end Go.Pm
/- The abstract machine, thirtieth text: what is owned is lent to a call that looks at it alone. -/
set_option linter.unusedVariables false
set_option linter.unusedSimpArgs false
namespace Go.Pm
attribute [local irreducible] AR Ok inBlock andThen endQ aoper
/-- The call gives a number or a truth value; it only looks at what it is given. -/
theorem PFun.lend {X : Cfg} {f : FuncId} {args args' : List AV} {v : Value} (h : PFun X f args' (.d (.s v))) (σ : St) (hl : args'.length = args.length) (ha : ∀ j (h1 : j < args.length) (h2 : j < args'.length), AFz σ args[j] args'[j]) :
    AFun X f args σ fun E σ' => E = .ret (.d (.s v)) ∧ σ' = σ := by
  obtain ⟨_, _, hc, h⟩ := h
  refine ⟨hc, fun F η w vals hg hf hs hn hv => ?_⟩
  have hle := FH.le_all hs
  have hfa : FRel (F.all η σ w) w := by
    intro b o hb
    unfold FH.all at hb
    split at hb
    · exact hb
    · exact hf b o hb
  refine (h (F.all η σ w) η w vals (hg.mono hle) hfa (SRel.nil _ η w) (by rw [hn, hl]) fun j hj => afz_rel hs (ha j (by omega) hj) (hv j (by omega))).mono ?_
  rintro e w' ⟨F', η', σ', E, h1, h2, h3, h4, rfl⟩
  have hfm : ∀ b, b < w.heap.size → w'.heap[b]? = w.heap[b]? := fun b hb => h1.fm b hb fun i o ho => by simp [St.nil] at ho
  refine ⟨F, η, σ, .ret (.d (.s v)), ⟨F.le_refl, Et.agree_refl _ _, Nat.le_refl _, h1.gr, fun b hb _ => hfm b hb, fun i o b ho hb _ => ⟨i, o, ho, hb⟩, fun b o hb _ => .inl hb⟩, ?_, ⟨hs.lt, fun i o ho => ?_, hs.ap, hs.fr⟩, ?_, rfl, rfl⟩
  · intro b o hb
    have h0 := hf b o hb
    have hlt : b < w.heap.size := by
      by_cases hh : b < w.heap.size
      · exact hh
      · rw [Array.getElem?_eq_none (by omega)] at h0; cases h0
    rw [hfm b hlt]; exact h0
  · exact (hs.ob i o ho).mono (hs.lt i o ho) F.le_refl (Et.agree_refl _ _) (Nat.le_refl _) fun b hb => hfm b ((hs.ob i o ho).own_lt hb)
  · cases e with
    | returned u =>
      have h5 : VRel F' η' σ'.next (.d (.s v)) u := h4
      have := h5.s_inv
      subst this
      exact .d (.s _)
    | panicked c => exact h4.elim
    | outgrown => exact h4.elim
def AFzL (σ : St) : List AV → List AV → Prop
  | [], [] => True
  | x :: l, y :: m => AFz σ x y ∧ AFzL σ l m
  | _, _ => False
theorem AFzL.get {σ : St} : ∀ {l m : List AV}, AFzL σ l m → m.length = l.length ∧ ∀ j (h1 : j < l.length) (h2 : j < m.length), AFz σ l[j] m[j]
  | [], [], _ => ⟨rfl, fun j h1 => by simp at h1⟩
  | x :: l, y :: m, h => by
    obtain ⟨h1, h2⟩ := h.2.get
    refine ⟨by simp [h1], fun j h3 h4 => ?_⟩
    cases j with
    | zero => exact h.1
    | succ j => exact h2 j (by simpa using h3) (by simpa using h4)
  | [], _ :: _, h => h.elim
  | _ :: _, [], h => h.elim
theorem PFun.lendL {X : Cfg} {f : FuncId} {args args' : List AV} {v : Value} (h : PFun X f args' (.d (.s v))) {σ : St} (ha : AFzL σ args args') : AFun X f args σ fun E σ' => E = .ret (.d (.s v)) ∧ σ' = σ :=
  h.lend σ ha.get.1 ha.get.2
/-- A struct of data stays what it is. -/
theorem afz_row {σ : St} (l : List D) : AFz σ (.agg (l.map .d)) (.agg (l.map .d)) := by
  refine .agg rfl fun j h1 h2 => ?_
  simp only [List.getElem_map]
  exact .data (.d _)
theorem afz_d {σ : St} (x : D) : AFz σ (.d x) (.d x) := .data (.d x)
theorem tk_push {α : Type} {l : List α} {k : Nat} {x : α} (h : l[k]? = some x) : l.take (k + 1) = l.take k ++ [x] := by rw [List.take_add_one, h]; rfl
section
variable {X : Cfg} {nt : Nat} {ops : Array Oper} {rest : List Oper} {Q : Exit → Env → St → Prop} {env : Env} {σ : St} {dst : Option Tmp} {op : Op} {ty : TypeId} {pos : String} {after : Array Edge} {j d : Nat} {b want : Bool} {r : AV} {K : AV → St → Prop}
theorem Ua (k : AD X nt ops Q σ rest (put env dst r)) (hj : (ops[j]?).bind (·.dst) = some d := by exact rfl) (hn : Nat.blt d nt = true := by exact rfl) (hb : env d = .d (.s (.bool b)) := by exact rfl) (hd : dst.all (· < nt) = true := by exact rfl) (hw : b = want := by with_reducible first | exact rfl | assumption) (h : astep X env σ op = some (r, σ) := by exact rfl) :
    AD X nt ops Q σ (⟨dst, op, ty, pos, after, some (j, want)⟩ :: rest) env := ad_hold2 hj hn hb hd hw (op_step h ⟨rfl, rfl⟩) k
theorem Ub (k : AD X nt ops Q σ rest (put env dst (.d (.s undef)))) (hj : (ops[j]?).bind (·.dst) = some d := by exact rfl) (hn : Nat.blt d nt = true := by exact rfl) (hb : env d = .d (.s (.bool b)) := by exact rfl) (hd : dst.all (· < nt) = true := by exact rfl) (hw : b = false := by with_reducible first | exact rfl | assumption) :
    AD X nt ops Q σ (⟨dst, op, ty, pos, after, some (j, true)⟩ :: rest) env := ad_skip_t hj hn hb hd hw k
theorem Ue (h : aoper X op env σ (fun _ _ _ => False) fun v σ' => σ' = σ ∧ v = r) (k : AD X nt ops Q σ rest (put env dst r)) (hj : (ops[j]?).bind (·.dst) = some d := by exact rfl) (hn : Nat.blt d nt = true := by exact rfl) (hb : env d = .d (.s (.bool b)) := by exact rfl) (hd : dst.all (· < nt) = true := by exact rfl) (hw : b = want := by with_reducible first | exact rfl | assumption) :
    AD X nt ops Q σ (⟨dst, op, ty, pos, after, some (j, want)⟩ :: rest) env := ad_hold2 hj hn hb hd hw h k
theorem Ysl {α : Type} {e : α → List D} {l : List α} {t el : TypeId} {x y z : Operand} {m n : Int} {ti te : TI} (a b : Nat) (r : List α) (hr : (l.drop a).take (b - a) = r) (hK : K (.d (.im (r.map e))) σ)
    (hx : aev X env x = .d (.im (l.map e)) := by exact rfl) (hy : aev X env y = vi m := by exact rfl) (hz : aev X env z = vi n := by exact rfl) (ht : X.T t = some ti := by exact rfl) (hk : ti.kind = .slice el := by exact rfl) (hte : X.T el = some te := by exact rfl) (hsz : ∀ u : α, (e u).length = te.size := by exact fun _ => rfl) (ha : m = (a : Int) := by omega) (hb : n = (b : Int) := by omega) (hab : a ≤ b := by omega) (hbl : b ≤ l.length := by omega) : aoper X (.slice t x (some y) (some z) none) env σ Q K := by
  simp only [aoper, aop, aslice, Option.map_some, optInt]
  rw [hx, hy, hz]
  refine ⟨ti, ht, some m, rfl, some n, rfl, ?_⟩
  rw [hk]
  subst ha hb hr
  refine ⟨by simp, by simpa using hab, by simpa using hbl, ⟨te, hte, fun r hr => ?_⟩, ?_⟩
  · obtain ⟨u, _, rfl⟩ := List.mem_map.1 hr
    exact hsz u
  · rw [List.map_take, List.map_drop] at hK
    simpa using hK
theorem Ycv {s t : TypeId} {x : Operand} {ts td : TI} {k k' : IntKind} {n : Int} (hk : K (.d (.s (.int k (k.wrap n)))) σ) (hx : aev X env x = .d (.s (.int k' n)) := by exact rfl) (hs : X.T s = some ts := by exact rfl) (ht : X.T t = some td := by exact rfl) (hd : td.kind = .int k := by exact rfl) : aoper X (.convert s t x) env σ Q K := by
  simp only [aoper, aop, aconvert]
  refine ⟨ts, hs, td, ht, ?_⟩
  rw [hd, hx]
  exact hk
end
end Go.Pm
/- Forests, plainly: which lists of statements spell a forest, and where the parts of an If lie. -/
set_option linter.unusedVariables false
set_option linter.unusedSimpArgs false
namespace Go.Pm
/-- The list spells the forest. -/
inductive Spell : List Sm → List Br → Prop
  | nil : Spell [] []
  | leaf {s : Sm} {l : List Sm} {R : List Br} (h4 : s.kind ≠ 4) (h5 : s.kind ≠ 5) (h6 : s.kind ≠ 6) (h : Spell l R) : Spell (s :: l) (.nd s [] [] :: R)
  | cond {s e f : Sm} {y n l : List Sm} {Y N R : List Br} (h4 : s.kind = 4) (h5 : e.kind = 5) (h6 : f.kind = 6) (hy : Spell y Y) (hn : Spell n N) (h : Spell l R) : Spell (s :: (y ++ e :: (n ++ f :: l))) (.nd s Y N :: R)
def putFs : List Br → List Fr → List Br → List Fr × List Br
  | [], st, R => (st, R)
  | b :: bs, st, R => putFs bs (putF b st R).1 (putF b st R).2
theorem putFs_nil : ∀ (bs R : List Br), putFs bs [] R = ([], R ++ bs)
  | [], R => by simp [putFs]
  | b :: bs, R => by simp [putFs, putF, putFs_nil bs]
theorem putFs_yes (s : Sm) (n : List Br) (st : List Fr) (R : List Br) : ∀ (bs : List Br) (Y : List Br), putFs bs (⟨s, false, Y, n⟩ :: st) R = (⟨s, false, Y ++ bs, n⟩ :: st, R)
  | [], Y => by simp [putFs]
  | b :: bs, Y => by simp [putFs, putF, putFs_yes s n st R bs]
theorem putFs_no (s : Sm) (y : List Br) (st : List Fr) (R : List Br) : ∀ (bs : List Br) (N : List Br), putFs bs (⟨s, true, y, N⟩ :: st) R = (⟨s, true, y, N ++ bs⟩ :: st, R)
  | [], Y => by simp [putFs]
  | b :: bs, Y => by simp [putFs, putF, putFs_no s y st R bs]
theorem grow_if {s : Sm} (h : s.kind = 4) (l : List Sm) (st : List Fr) (R : List Br) : growGo (s :: l) st R = growGo l (⟨s, false, [], []⟩ :: st) R := by simp only [growGo]; rw [if_pos h]
theorem grow_else {s u : Sm} (h : s.kind = 5) (l : List Sm) (y n : List Br) (st : List Fr) (R : List Br) : growGo (s :: l) (⟨u, false, y, n⟩ :: st) R = growGo l (⟨u, true, y, n⟩ :: st) R := by
  simp only [growGo]; rw [if_neg (by omega), if_pos h]; rfl
theorem grow_end {s u : Sm} (h : s.kind = 6) (l : List Sm) (y n : List Br) (st : List Fr) (R : List Br) : growGo (s :: l) (⟨u, true, y, n⟩ :: st) R = growGo l (putF (.nd u y n) st R).1 (putF (.nd u y n) st R).2 := by
  simp only [growGo]; rw [if_neg (by omega), if_neg (by omega), if_pos h]; rfl
theorem spell_grow {l : List Sm} {T : List Br} (h : Spell l T) : ∀ (r : List Sm) (st : List Fr) (R : List Br), growGo (l ++ r) st R = growGo r (putFs T st R).1 (putFs T st R).2 := by
  induction h with
  | nil => intro r st R; rfl
  | leaf h4 h5 h6 _ ih =>
    intro r st R
    simp only [List.cons_append, growGo, h4, h5, h6, if_false, ih, putFs]
  | @cond s e f y n l Y N T h4 h5 h6 _ _ _ ihy ihn ih =>
    intro r st R
    have e1 : s :: (y ++ e :: (n ++ f :: l)) ++ r = s :: (y ++ (e :: (n ++ (f :: (l ++ r))))) := by simp
    rw [e1, grow_if h4, ihy, putFs_yes, List.nil_append, grow_else h5, ihn, putFs_no, List.nil_append, grow_end h6, ih]
    rfl
theorem spell_growI {l : List Sm} {T : List Br} (h : Spell l T) : growI l = some T := by
  have := spell_grow h [] [] []
  rw [List.append_nil] at this
  unfold growI
  rw [this, putFs_nil]
  rfl
/-- The list ends the open frames. -/
inductive Comp : List Sm → List Fr → List Br → List Br → Prop
  | done {l : List Sm} {R T : List Br} (h : Spell l T) : Comp l [] R (R ++ T)
  | yes {y l : List Sm} {Y R R' : List Br} {e : Sm} {f : Fr} {st : List Fr} (hf : f.els = false) (hy : Spell y Y) (he : e.kind = 5) (h : Comp l (⟨f.s, true, f.yes ++ Y, f.no⟩ :: st) R R') : Comp (y ++ e :: l) (f :: st) R R'
  | no {n l : List Sm} {N R R' : List Br} {e : Sm} {f : Fr} {st : List Fr} (hf : f.els = true) (hn : Spell n N) (he : e.kind = 6) (h : Comp l (putF (.nd f.s f.yes (f.no ++ N)) st R).1 (putF (.nd f.s f.yes (f.no ++ N)) st R).2 R') : Comp (n ++ e :: l) (f :: st) R R'
theorem comp_push {u l : List Sm} {b : Br} (hu : ∀ {m : List Sm} {T : List Br}, Spell m T → Spell (u ++ m) (b :: T)) {st : List Fr} {R R' : List Br} (h : Comp l (putF b st R).1 (putF b st R).2 R') : Comp (u ++ l) st R R' := by
  cases st with
  | nil =>
    simp only [putF] at h
    cases h with
    | done h => rw [List.append_assoc]; exact .done (hu h)
  | cons f st =>
    simp only [putF] at h
    cases hf : f.els with
    | false =>
      simp only [hf, Bool.false_eq_true, if_false] at h
      cases h with
      | yes hf' hy he h =>
        rw [← List.append_assoc]
        refine .yes hf (hu hy) he ?_
        simpa using h
      | no hf' => simp [hf] at hf'
    | true =>
      simp only [hf, if_true] at h
      cases h with
      | yes hf' => simp [hf] at hf'
      | no hf' hn he h =>
        rw [← List.append_assoc]
        refine .no hf (hu hn) he ?_
        simpa using h
theorem grow_comp : ∀ (l : List Sm) (st : List Fr) (R R' : List Br), growGo l st R = some R' → Comp l st R R'
  | [], [], R, R', e => by
    simp only [growGo, Option.some.injEq] at e
    subst e
    have := Comp.done (R := R) Spell.nil
    simpa using this
  | [], _ :: _, R, R', e => by simp [growGo] at e
  | s :: l, st, R, R', e => by
    simp only [growGo] at e
    split at e
    · rename_i h4
      have := grow_comp l _ R R' e
      cases this with
      | @yes y l1 Y _ _ t1 _ _ hf hy he h =>
        cases h with
        | @no n l2 N _ _ t2 _ _ hf2 hn he2 h =>
          have key := comp_push (u := s :: (y ++ t1 :: (n ++ [t2]))) (b := .nd s Y N) (st := st) (R := R) (R' := R') (l := l2) (fun {m T} hm => by
            have := Spell.cond h4 he he2 hy hn hm
            simpa using this) (by simpa using h)
          simpa using key
        | yes hf' => cases hf'
      | no hf => cases hf
    · rename_i h4
      split at e
      · rename_i h5
        cases st with
        | nil => cases e
        | cons f st' =>
          dsimp only at e
          split at e
          · cases e
          · rename_i hf
            have := grow_comp l _ R R' e
            have := Comp.yes (f := f) (by simpa using hf) Spell.nil h5 (by simpa using this)
            simpa using this
      · rename_i h5
        split at e
        · rename_i h6
          cases st with
          | nil => cases e
          | cons f st' =>
            dsimp only at e
            split at e
            · rename_i hf
              have := grow_comp l _ _ R' e
              have := Comp.no (f := f) hf Spell.nil h6 (by simpa using this)
              simpa using this
            · cases e
        · rename_i h6
          have := grow_comp l _ _ R' e
          exact comp_push (u := [s]) (fun hm => Spell.leaf h4 h5 h6 hm) this
theorem comp_nil {l : List Sm} {R X : List Br} (h : Comp l [] R X) : ∃ T, X = R ++ T ∧ Spell l T := by
  cases h with
  | done h => exact ⟨_, rfl, h⟩
theorem grow_spell {l : List Sm} {T : List Br} (h : growI l = some T) : Spell l T := by
  obtain ⟨T', rfl, h'⟩ := comp_nil (grow_comp l [] [] T h)
  exact h'
/-! ### where the Else and the End lie -/
def partsGo : List Sm → Nat → Int → Int → Int × Int
  | [], _, _, _ => (-1, -1)
  | s :: l, j, d, o =>
    if s.kind = 4 then partsGo l (j + 1) (d + 1) o
    else if s.kind = 5 then (if d = 1 then (if 0 ≤ o then (-1, -1) else partsGo l (j + 1) d j) else partsGo l (j + 1) d o)
    else if s.kind = 6 then (if d - 1 = 0 then (o, j) else partsGo l (j + 1) (d - 1) o)
    else partsGo l (j + 1) d o
def partsS (l : List Sm) (i : Nat) : Int × Int := partsGo (l.drop i) i 0 (-1)
theorem go_if {s : Sm} (h : s.kind = 4) (l : List Sm) (j : Nat) (d o : Int) : partsGo (s :: l) j d o = partsGo l (j + 1) (d + 1) o := by simp only [partsGo]; rw [if_pos h]
theorem go_else {s : Sm} (h : s.kind = 5) (l : List Sm) (j : Nat) {d : Int} (hd : d ≠ 1) (o : Int) : partsGo (s :: l) j d o = partsGo l (j + 1) d o := by simp only [partsGo]; rw [if_neg (by omega), if_pos h, if_neg hd]
theorem go_end {s : Sm} (h : s.kind = 6) (l : List Sm) (j : Nat) {d : Int} (hd : d - 1 ≠ 0) (o : Int) : partsGo (s :: l) j d o = partsGo l (j + 1) (d - 1) o := by simp only [partsGo]; rw [if_neg (by omega), if_neg (by omega), if_pos h, if_neg hd]
theorem parts_spell {l : List Sm} {T : List Br} (h : Spell l T) : ∀ (r : List Sm) (j : Nat) (d o : Int), 1 ≤ d → partsGo (l ++ r) j d o = partsGo r (j + l.length) d o := by
  induction h with
  | nil => intro r j d o _; rfl
  | leaf h4 h5 h6 _ ih =>
    intro r j d o hd
    simp only [List.cons_append, partsGo, h4, h5, h6, if_false, ih _ _ _ _ hd, List.length_cons]
    congr 1; omega
  | @cond s e f y n l Y N T h4 h5 h6 _ _ _ ihy ihn ih =>
    intro r j d o hd
    have e1 : s :: (y ++ e :: (n ++ f :: l)) ++ r = s :: (y ++ (e :: (n ++ (f :: (l ++ r))))) := by simp
    rw [e1]
    rw [go_if h4, ihy _ _ _ _ (by omega), go_else h5 _ _ (by omega), ihn _ _ _ _ (by omega), go_end h6 _ _ (by omega), ih _ _ _ _ (by omega)]
    simp only [List.length_cons, List.length_append]
    congr 1 <;> omega
theorem parts_if {s e f : Sm} {y n : List Sm} {Y N : List Br} (h4 : s.kind = 4) (h5 : e.kind = 5) (h6 : f.kind = 6) (hy : Spell y Y) (hn : Spell n N) (r : List Sm) (j : Nat) :
    partsGo (s :: (y ++ e :: (n ++ f :: r))) j 0 (-1) = (((j + 1 + y.length : Nat) : Int), ((j + 1 + y.length + 1 + n.length : Nat) : Int)) := by
  rw [go_if h4, parts_spell hy _ _ _ _ (by omega)]
  have h1 : ∀ (m : List Sm) (j : Nat), partsGo (e :: m) j (0 + 1) (-1) = partsGo m (j + 1) 1 j := by
    intro m j
    simp only [partsGo]
    rw [if_neg (by omega), if_pos h5, if_pos (by omega), if_neg (by omega)]
    rfl
  rw [h1, parts_spell hn _ _ _ _ (by omega)]
  simp only [partsGo]
  rw [if_neg (by omega), if_neg (by omega), if_pos h6, if_pos (by omega)]
/-- What the answer tells of the list. -/
theorem parts_at : ∀ (l : List Sm) (j : Nat) (d o O E : Int), 1 ≤ d → partsGo l j d o = (O, E) → 0 ≤ E → (∃ q, E = ((j + q : Nat) : Int) ∧ ∃ f, l[q]? = some f ∧ f.kind = 6 ∧ (O = o ∨ ∃ p, p < q ∧ O = ((j + p : Nat) : Int) ∧ ∃ e, l[p]? = some e ∧ e.kind = 5))
  | [], j, d, o, O, E, _, h, hE => by simp only [partsGo, Prod.mk.injEq] at h; omega
  | s :: l, j, d, o, O, E, hd, h, hE => by
    have up : ∀ {d' o' : Int}, 1 ≤ d' → partsGo l (j + 1) d' o' = (O, E) → (o' = o ∨ (o' = (j : Int) ∧ s.kind = 5)) → ∃ q, E = ((j + q : Nat) : Int) ∧ ∃ f, (s :: l)[q]? = some f ∧ f.kind = 6 ∧ (O = o ∨ ∃ p, p < q ∧ O = ((j + p : Nat) : Int) ∧ ∃ e, (s :: l)[p]? = some e ∧ e.kind = 5) := by
      intro d' o' hd' h' ho
      obtain ⟨q, h1, f, h2, h3, h4⟩ := parts_at l (j + 1) d' o' O E hd' h' hE
      refine ⟨q + 1, by omega, f, by simpa using h2, h3, ?_⟩
      rcases h4 with h4 | ⟨p, h5, h6, e, h7, h8⟩
      · rcases ho with ho | ⟨ho, hs⟩
        · exact .inl (by omega)
        · exact .inr ⟨0, by omega, by omega, s, rfl, hs⟩
      · exact .inr ⟨p + 1, by omega, by omega, e, by simpa using h7, h8⟩
    simp only [partsGo] at h
    split at h
    · exact up (by omega) h (.inl rfl)
    · split at h
      · rename_i h5
        split at h
        · split at h
          · simp only [Prod.mk.injEq] at h; omega
          · exact up hd h (.inr ⟨rfl, h5⟩)
        · exact up hd h (.inl rfl)
      · split at h
        · rename_i h6
          split at h
          · simp only [Prod.mk.injEq] at h
            exact ⟨0, by omega, s, rfl, h6, .inl h.1.symm⟩
          · exact up (by omega) h (.inl rfl)
        · exact up hd h (.inl rfl)
end Go.Pm
/- Forests, plainly: the tree of a list that begins with an If; how deep a forest is. -/
set_option linter.unusedVariables false
set_option linter.unusedSimpArgs false
namespace Go.Pm
theorem if_inv {s : Sm} {r : List Sm} {T : List Br} (h4 : s.kind = 4) (h : Spell (s :: r) T) : ∃ y e n f r2 Y N R, r = y ++ e :: (n ++ f :: r2) ∧ e.kind = 5 ∧ f.kind = 6 ∧ Spell y Y ∧ Spell n N ∧ Spell r2 R ∧ T = .nd s Y N :: R := by
  cases h with
  | leaf h => exact absurd h4 h
  | cond h4 h5 h6 hy hn h => exact ⟨_, _, _, _, _, _, _, _, rfl, h5, h6, hy, hn, h, rfl⟩
theorem leaf_inv {s : Sm} {r : List Sm} {T : List Br} (h4 : s.kind ≠ 4) (h : Spell (s :: r) T) : s.kind ≠ 5 ∧ s.kind ≠ 6 ∧ ∃ R, Spell r R ∧ T = .nd s [] [] :: R := by
  cases h with
  | leaf h4 h5 h6 h => exact ⟨h5, h6, _, h, rfl⟩
  | cond h => exact absurd h h4
theorem growI_nil : growI [] = some [] := rfl
theorem growI_leaf {s : Sm} {r : List Sm} (h4 : s.kind ≠ 4) (h5 : s.kind ≠ 5) (h6 : s.kind ≠ 6) : growI (s :: r) = (growI r).map (.nd s [] [] :: ·) := by
  cases h : growI r with
  | none =>
    rw [Option.map_none]
    cases h' : growI (s :: r) with
    | none => rfl
    | some T =>
      obtain ⟨_, _, R, h1, _⟩ := leaf_inv h4 (grow_spell h')
      rw [spell_growI h1] at h; cases h
  | some R => exact spell_growI (.leaf h4 h5 h6 (grow_spell h))
theorem growI_bad {s : Sm} {r : List Sm} (h : s.kind = 5 ∨ s.kind = 6) : growI (s :: r) = none := by
  cases h' : growI (s :: r) with
  | none => rfl
  | some T => obtain ⟨h5, h6, _⟩ := leaf_inv (by omega) (grow_spell h'); omega
theorem if_none {s : Sm} {r : List Sm} {j : Nat} {O E : Int} (h4 : s.kind = 4) (hp : partsGo (s :: r) j 0 (-1) = (O, E)) (hb : O < 0 ∨ E < 0) : growI (s :: r) = none := by
  cases h' : growI (s :: r) with
  | none => rfl
  | some T =>
    obtain ⟨y, e, n, f, r2, Y, N, R, rfl, h5, h6, hy, hn, _⟩ := if_inv h4 (grow_spell h')
    rw [parts_if h4 h5 h6 hy hn, Prod.mk.injEq] at hp
    omega
theorem if_cut {s : Sm} {r : List Sm} {j : Nat} {O E : Int} (h4 : s.kind = 4) (hp : partsGo (s :: r) j 0 (-1) = (O, E)) (hO : 0 ≤ O) (hE : 0 ≤ E) :
    ∃ y e n f r2, r = y ++ e :: (n ++ f :: r2) ∧ e.kind = 5 ∧ f.kind = 6 ∧ O = ((j + 1 + y.length : Nat) : Int) ∧ E = ((j + 1 + y.length + 1 + n.length : Nat) : Int) := by
  rw [go_if h4] at hp
  obtain ⟨q, h1, f, h2, h3, h⟩ := parts_at r (j + 1) _ _ O E (by omega) hp hE
  rcases h with h | ⟨p, hpq, h5, e, h6, h7⟩
  · omega
  obtain ⟨d1, l1⟩ : r.drop q = f :: r.drop (q + 1) ∧ q < r.length := by
    obtain ⟨hl, he⟩ := List.getElem?_eq_some_iff.1 h2
    exact ⟨by rw [List.drop_eq_getElem_cons hl, he], hl⟩
  obtain ⟨d2, l2⟩ : r.drop p = e :: r.drop (p + 1) ∧ p < r.length := by
    obtain ⟨hl, he⟩ := List.getElem?_eq_some_iff.1 h6
    exact ⟨by rw [List.drop_eq_getElem_cons hl, he], hl⟩
  have d3 : (r.drop (p + 1)).drop (q - p - 1) = f :: r.drop (q + 1) := by rw [List.drop_drop, ← d1]; congr 1; omega
  refine ⟨r.take p, e, (r.drop (p + 1)).take (q - p - 1), f, r.drop (q + 1), ?_, h7, h3, ?_, ?_⟩
  · rw [← d3, List.take_append_drop, ← d2, List.take_append_drop]
  · rw [List.length_take, Nat.min_eq_left (by omega)]; exact h5
  · rw [List.length_take, Nat.min_eq_left (by omega), List.length_take, List.length_drop, Nat.min_eq_left (by omega)]; omega
theorem growI_if {s e f : Sm} {y n r2 : List Sm} {j : Nat} (h4 : s.kind = 4) (h5 : e.kind = 5) (h6 : f.kind = 6) (hp : partsGo (s :: (y ++ e :: (n ++ f :: r2))) j 0 (-1) = (((j + 1 + y.length : Nat) : Int), ((j + 1 + y.length + 1 + n.length : Nat) : Int))) :
    growI (s :: (y ++ e :: (n ++ f :: r2))) = (growI y).bind fun Y => (growI n).bind fun N => (growI r2).map fun R => .nd s Y N :: R := by
  cases h' : growI (s :: (y ++ e :: (n ++ f :: r2))) with
  | some T =>
    obtain ⟨y', e', n', f', r', Y, N, R, he, h5', h6', hy, hn, hr, rfl⟩ := if_inv h4 (grow_spell h')
    rw [he, parts_if h4 h5' h6' hy hn, Prod.mk.injEq] at hp
    obtain ⟨rfl, he2⟩ := List.append_inj he (by omega)
    rw [List.cons.injEq] at he2
    obtain ⟨rfl, he2⟩ := he2
    obtain ⟨rfl, he3⟩ := List.append_inj he2 (by omega)
    rw [List.cons.injEq] at he3
    obtain ⟨rfl, rfl⟩ := he3
    rw [spell_growI hy, spell_growI hn, spell_growI hr]; rfl
  | none =>
    cases hy : growI y with
    | none => rfl
    | some Y =>
      cases hn : growI n with
      | none => rfl
      | some N =>
        cases hr : growI r2 with
        | none => rfl
        | some R => rw [spell_growI (.cond h4 h5 h6 (grow_spell hy) (grow_spell hn) (grow_spell hr))] at h'; cases h'
theorem spell_nil {l : List Sm} {T : List Br} (h : Spell l T) : l = [] ↔ T = [] := by cases h <;> simp
mutual
def deepB : Br → Int → Bool
  | .nd s Y N, d => if s.kind = 4 then (if (Y ≠ [] ∨ N ≠ []) ∧ 20 < d + 1 then false else deepL Y (d + 1) && deepL N (d + 1)) else true
def deepL : List Br → Int → Bool
  | [], _ => true
  | b :: R, d => deepB b d && deepL R d
end
def nestV (l : List Sm) (d : Int) : Bool := match growI l with | none => false | some R => deepL R d
theorem nestV_nil (d : Int) : nestV [] d = true := by simp [nestV, growI_nil, deepL]
theorem nestV_leaf {s : Sm} {r : List Sm} (h4 : s.kind ≠ 4) (h5 : s.kind ≠ 5) (h6 : s.kind ≠ 6) (d : Int) : nestV (s :: r) d = nestV r d := by
  unfold nestV
  rw [growI_leaf h4 h5 h6]
  cases growI r with
  | none => rfl
  | some R => simp [deepL, deepB, h4]
theorem nestV_bad {s : Sm} {r : List Sm} (h : s.kind = 5 ∨ s.kind = 6) (d : Int) : nestV (s :: r) d = false := by
  unfold nestV; rw [growI_bad h]
theorem nestV_none {s : Sm} {r : List Sm} {j : Nat} {O E : Int} (h4 : s.kind = 4) (hp : partsGo (s :: r) j 0 (-1) = (O, E)) (hb : O < 0 ∨ E < 0) (d : Int) : nestV (s :: r) d = false := by
  unfold nestV; rw [if_none h4 hp hb]
theorem nestV_if {s e f : Sm} {y n r2 : List Sm} {j : Nat} (h4 : s.kind = 4) (h5 : e.kind = 5) (h6 : f.kind = 6) (hp : partsGo (s :: (y ++ e :: (n ++ f :: r2))) j 0 (-1) = (((j + 1 + y.length : Nat) : Int), ((j + 1 + y.length + 1 + n.length : Nat) : Int))) (d : Int) :
    nestV (s :: (y ++ e :: (n ++ f :: r2))) d = if (0 < y.length ∨ 0 < n.length) ∧ 20 < d + 1 then false else nestV y (d + 1) && nestV n (d + 1) && nestV r2 d := by
  unfold nestV
  rw [growI_if h4 h5 h6 hp]
  cases hy : growI y with
  | none => simp
  | some Y =>
    cases hn : growI n with
    | none => simp
    | some N =>
      have e1 : (0 < y.length ↔ Y ≠ []) := by rw [List.length_pos_iff, Ne, spell_nil (grow_spell hy)]
      have e2 : (0 < n.length ↔ N ≠ []) := by rw [List.length_pos_iff, Ne, spell_nil (grow_spell hn)]
      cases hr : growI r2 with
      | none => simp
      | some R =>
        simp only [Option.bind_some, Option.map_some, deepL, deepB, h4, if_true, e1, e2]
        split
        · rfl
        · rfl
def withinAt (sw : Sm → ByteArray → Bool) (l : List Sm) (i : Nat) : Bool := match l[i]? with
  | none => true
  | some s => if s.kind = 4 then !(((l.drop i).take ((partsS l i).2.toNat - i)).any fun t => sw t s.name) else true
def withinS (sw : Sm → ByteArray → Bool) (l : List Sm) : Bool := (List.range l.length).all (withinAt sw l)
end Go.Pm
/- The abstract machine, thirty-first text: elements at a number that is known by an equation. -/
set_option linter.unusedVariables false
set_option linter.unusedSimpArgs false
namespace Go.Pm
attribute [local irreducible] AR Ok inBlock andThen endQ aoper
section
variable {X : Cfg} {nt : Nat} {Q : Exit → Env → St → Prop} {env : Env} {σ : St} {K : AV → St → Prop}
theorem Yej {α : Type} {e : α → List D} {l : List α} {y : α} {n : Int} {ti te : TI} {el : TypeId} {t : TypeId} {x i : Operand} (k : Nat) (hn : n = (k : Int)) (hl : l[k]? = some y) (hK : K (.d (.ip (e y) 0)) σ) (hx : aev X env x = .d (.im (l.map e)) := by exact rfl) (hi : aev X env i = vi n := by exact rfl)
    (ht : X.T t = some ti := by exact rfl) (hk : ti.kind = .slice el := by exact rfl) (hte : X.T el = some te := by exact rfl) (hsz : (e y).length = te.size := by exact rfl) : aoper X (.indexAddr t x i) env σ Q K := op_elem hx (hi.trans (congrArg vi hn)) hl ht hk hte hsz hK
end
end Go.Pm
/- The abstract machine, thirty-second text: a struct that is allotted as a row of its own kind. -/
set_option linter.unusedVariables false
set_option linter.unusedSimpArgs false
namespace Go.Pm
section
variable {X : Cfg} {nt : Nat} {ops : Array Oper} {rest : List Oper} {Q : Exit → Env → St → Prop} {env : Env} {σ : St} {dst : Option Tmp} {op : Op} {ty : TypeId} {pos : String} {after : Array Edge}
theorem ar_opok (hd : dst.all (· < nt) = true) (h : ∀ (F : FH) (η : Et) (a : Act) (w : World), GRel X F → Rel F η nt env σ a w → OpOk X F η σ w ((execOp a.eval ⟨dst, op, ty, pos, after, none⟩).run X.P w) (fun v σ' => AR X nt ops Q rest (put env dst v) σ')) :
    AR X nt ops Q (⟨dst, op, ty, pos, after, none⟩ :: rest) env σ := by
  intro F η a w hg hr
  unfold wpList
  rw [if_pos (by simp [Region.wanted])]
  refine .inl ?_
  obtain ⟨nx, v, w', F', η', σ', x, hrun, hnx, hs, hg', hf', hr', hv, hk⟩ := h F η a w hg hr
  unfold Oper.wp
  rw [hrun]
  have hr2 := hr.step hs hf' hr'
  rcases hnx with rfl | ⟨rfl, rfl⟩
  · exact wpList_mono (fun _ _ _ hp => hp.of_step hs) rest _ _ (hk F' η' (a.put dst v) w' hg' (hr2.put hd hv))
  · exact wpList_mono (fun _ _ _ hp => hp.of_step hs) rest _ _ (hk F' η' (a.put dst undef) w' hg' (hr2.put hd hv))
end
end Go.Pm
/- The abstract machine, thirty-third text: structs whose block is known to the letter; objects that are given up; functions that are known from elsewhere. -/
set_option linter.unusedVariables false
set_option linter.unusedSimpArgs false
namespace Go.Pm
section
variable {X : Cfg} {nt : Nat} {ops : Array Oper} {rest : List Oper} {Q : Exit → Env → St → Prop} {env : Env} {σ : St} {dst : Option Tmp} {op : Op} {ty : TypeId} {pos : String} {after : Array Edge}
end
def St.drop (σ : St) (r : Nat) : St := ⟨fun j => if j = r then none else σ.obj j, σ.next⟩
end Go.Pm
/- The abstract machine, thirty-fourth text: rows of bytes, and strings put behind them. -/
set_option linter.unusedVariables false
set_option linter.unusedSimpArgs false
namespace Go.Pm
attribute [local irreducible] AR Ok inBlock andThen endQ aoper
section
variable {X : Cfg} {nt : Nat} {Q : Exit → Env → St → Prop} {env : Env} {σ : St} {K : AV → St → Prop}
end
end Go.Pm
/- The abstract machine, thirty-fifth text: the end of a call under other numbers; what a call does to a text under way. -/
set_option linter.unusedVariables false
set_option linter.unusedSimpArgs false
namespace Go.Pm
theorem AFun.wfr {X : Cfg} {f : FuncId} {args : List AV} {σ : St} {K : AEnd → St → Prop} (hc : CallOk X.P f) (h : (∀ i o, σ.obj i = some o → i < σ.next) → (∀ i v E sz rows, σ.obj i = some (.row v E sz rows) → v < σ.next) → AFun X f args σ K) : AFun X f args σ K :=
  ⟨hc, fun F η w vals hg hf hs => (h hs.lt fun i v E sz rows ho => by
    have := hs.ob i _ ho
    cases this with
    | row xs hv => exact hv).2 F η w vals hg hf hs⟩
/-- A text under way, in a state of its own. -/
def bdO (u : TypeId) (h : Nat) (t : ByteArray) : List (Option AO) := [some (.var [.ref 0 0, .sl 1 h 0 t.size]), some (.row h u 1 (byteRows t))]
def bdUsed (u : TypeId) (σ : St) (i r : Nat) (s : ByteArray) : St := (bumpSet σ r (.row σ.next u 1 (byteRows s))).set i (.var [.ref i 0, .sl r σ.next 0 s.size])
def bdPi (i r h : Nat) (j : Nat) : Nat := if j = 0 then i else if j = 1 then r else h
section
variable {X : Cfg} {nt : Nat} {Q : Exit → Env → St → Prop} {env : Env} {σ : St} {K : AV → St → Prop}
attribute [local irreducible] AR Ok inBlock andThen endQ aoper
/-- A string behind a string. -/
theorem Ul {t ty : TypeId} {x y : Operand} {a b : ByteArray} (hK : K (vs (a ++ b)) σ) (hx : aev X env x = vs a := by exact rfl) (hy : aev X env y = vs b := by exact rfl) (hb : (a ++ b).size ≤ 9223372036854775807 := by first | omega | (simp only [ByteArray.size_append]; omega)) : aoper X (.binOp .add t x y ty) env σ Q K := by
  rw [ByteArray.size_append] at hb
  exact op_bin hx hy (by simp only [abin, if_pos hb]) hK
end
end Go.Pm
/- The abstract machine, thirty-sixth text: a string behind a nil slice of bytes; the new row takes a number that is free. -/
set_option linter.unusedVariables false
set_option linter.unusedSimpArgs false
namespace Go.Pm
section
variable {X : Cfg} {nt : Nat} {ops : Array Oper} {rest : List Oper} {Q : Exit → Env → St → Prop} {env : Env} {σ : St} {dst : Option Tmp} {ty : TypeId} {pos : String} {after : Array Edge}
end
end Go.Pm
/- The abstract machine, thirty-seventh text: parts of strings; a byte behind a row of bytes; a row of bytes as a string. -/
set_option linter.unusedVariables false
set_option linter.unusedSimpArgs false
namespace Go.Pm
section
variable {X : Cfg} {nt : Nat} {ops : Array Oper} {rest : List Oper} {Q : Exit → Env → St → Prop} {env : Env} {σ : St} {dst : Option Tmp} {ty : TypeId} {pos : String} {after : Array Edge}
/-- A row of bytes as a string. -/
theorem Up {s t el i v n : Nat} {x : Operand} {w : ByteArray} {ts te td : TI} (hn : n = w.size) (ho : σ.obj i = some (.row v el 1 (byteRows w))) (h : AR X nt ops Q rest (put env dst (vs w)) σ)
    (hd : dst.all (· < nt) = true := by exact rfl) (hx : aev X env x = .sl i v 0 n := by exact rfl) (hs : X.T s = some ts := by exact rfl) (hks : ts.kind = .slice el := by exact rfl) (hte : X.T el = some te := by exact rfl) (hke : te.kind = .int .u8 := by exact rfl) (ht : X.T t = some td := by exact rfl) (hkt : td.kind = .string := by exact rfl) :
    AR X nt ops Q (⟨dst, .convert s t x, ty, pos, after, none⟩ :: rest) env σ := by
  subst hn
  refine ar_opok hd fun F η a w0 hg hr0 => ?_
  have hf := hr0.fr
  have hst := hr0.st
  obtain ⟨d1, i1, z1, hu1, hd1, _⟩ := X.ok s ts hs
  obtain ⟨d2, i2, z2, hu2, hd2, _⟩ := X.ok t td ht
  obtain ⟨d3, i3, z3, hu3, hd3, _⟩ := X.ok el te hte
  rw [hks] at hd1
  rw [hkt] at hd2
  rw [hke] at hd3
  have e1 := kind_slice hd1
  have e2 := kind_string hd2
  have e3 := kind_int hd3
  subst e1 e2 e3
  have hev := aev_rel hg hr0 x
  rw [hx] at hev
  have key : (convert s t (a.eval x)).run X.P w0 = .ok (.string w) w0 := by
    generalize a.eval x = vx at hev
    generalize hzz : w.size = z at hev
    have hor := hst.ob i _ ho
    cases hev with
    | @sl _ _ _ _ g cap sz off q1 q2 hh hle hc' hoff =>
      cases hor with
      | row xs b1 b2 b3 b4 b5 b6 b7 =>
        subst hzz
        have hblk : (η.hdr v).blk = some g := by rw [hh]
        obtain ⟨cur, hg1, hn2, hcap1, hsz1, htk⟩ := own_row_blk b4 hblk
        have hcap : (η.hdr v).cap = cap := by rw [hh]
        rw [hcap] at hn2 hcap1 hsz1
        rw [byteRows_length, Nat.mul_one] at htk
        rw [byteRows_length] at hn2
        rw [Nat.mul_one] at hsz1
        have hlen : w.data.toList.length = w.size := by simp
        by_cases h0 : w.size = 0
        · have hw : w = ⟨#[]⟩ := by
            apply ByteArray.ext
            apply Array.ext
            · simpa using h0
            · intro j h1 h2
              have : w.data.size = w.size := rfl
              omega
          have key := run_convert_bytes_back w0 s t el ⟨g, off, none⟩ cap [] hu1 hu3 hu2 (fun j hj => absurd hj (by simp))
          rw [hw]
          exact key
        · have hoff := hoff (by omega)
          rw [Nat.zero_mul] at hoff
          subst hoff
          have key := run_convert_bytes_back w0 s t el ⟨g, 0, none⟩ cap w.data.toList hu1 hu3 hu2 (fun j hj => by
            have hjb : j < (byteRows w).length := by rw [byteRows_length]; simpa using hj
            have hrow := b7 j hjb 0 (by simp [byteRows])
            have hcur : cur[j]? = xs[j]? := by
              rw [← htk, List.getElem?_take, if_pos (by rw [byteRows_length] at hjb; exact hjb), Array.getElem?_toList]
            have hxl : xs.length = w.size := by
              have := b4.1
              rw [byteRows_length, Nat.mul_one] at this
              exact this
            have hjx : j < xs.length := by rw [hxl]; rw [byteRows_length] at hjb; exact hjb
            have ea : (Addr.add ⟨g, 0, none⟩ j) = ⟨g, j, none⟩ := by unfold Addr.add; split <;> simp_all
            have ec : w0.cell? ⟨g, j, none⟩ = cur[j]? := by simp [World.cell?, hg1]
            rw [ea, ec, hcur, List.getElem?_eq_getElem hjx]
            have e2 : xs.getD (j * 1 + 0) undef = xs[j] := by
              rw [Nat.mul_one, Nat.add_zero]
              simp [List.getD, List.getElem?_eq_getElem hjx]
            rw [e2] at hrow
            have e3 : (byteRows w)[j][0]'(by simp [byteRows]) = .d (.s (.int .u8 (w.data.toList[j]).toNat)) := by
              simp only [byteRows, List.getElem_map, List.getElem_cons_zero]
            rw [e3] at hrow
            rw [hrow.s_inv])
          rw [hlen] at key
          exact key
    | sl0 q1 q2 hh =>
      rw [run_convert_bytes_string w0 s t el none 0 0 hu1 hu3 hu2]
      have h0 : w = .empty := by
        apply ByteArray.ext
        apply Array.ext
        · exact hzz
        · intro j h1 h2
          simp at h2
      rw [h0]
      rfl
  exact (VOk.same hg hf hst key (.d (.s (.string w))) h).op
end
attribute [local irreducible] AR Ok inBlock andThen endQ aoper
section
variable {X : Cfg} {nt : Nat} {Q : Exit → Env → St → Prop} {env : Env} {σ : St} {K : AV → St → Prop}
end
end Go.Pm
/- The abstract machine, thirty-eighth text: some of what is owned is frozen; the rest is kept. -/
set_option linter.unusedVariables false
set_option linter.unusedSimpArgs false
namespace Go.Pm
/-- The objects of a set alone. -/
def St.sel (σ : St) (S : Nat → Bool) : St := ⟨fun j => if S j then σ.obj j else none, σ.next⟩
inductive Kz (τ : St) : AV → AV → Prop
  | same (x : AV) : Kz τ x x
  | fz {x y : AV} (h : AFz τ x y) : Kz τ x y
inductive OKz (τ : St) : AO → AO → Prop
  | same (o : AO) : OKz τ o o
  | var {cs cs' : List AV} (hl : cs'.length = cs.length) (h : ∀ j (h1 : j < cs.length) (h2 : j < cs'.length), Kz τ cs[j] cs'[j]) : OKz τ (.var cs) (.var cs')
  | row {v E sz : Nat} {rows rows' : List (List AV)} (hl : rows'.length = rows.length) (hr : ∀ k (h1 : k < rows.length) (h2 : k < rows'.length), (rows'[k]).length = (rows[k]).length)
      (h : ∀ k (h1 : k < rows.length) (h2 : k < rows'.length) j (h3 : j < (rows[k]).length) (h4 : j < (rows'[k]).length), Kz τ (rows[k])[j] (rows'[k])[j]) : OKz τ (.row v E sz rows) (.row v E sz rows')
end Go.Pm
/- The abstract machine, thirty-ninth text: a function known from elsewhere that looks at frozen strings. -/
set_option linter.unusedVariables false
set_option linter.unusedSimpArgs false
namespace Go.Pm
open Go.RowKit
end Go.Pm
/- The abstract machine, fortieth text: the ends of an owned slice; a part of a row behind nil. -/
set_option linter.unusedVariables false
set_option linter.unusedSimpArgs false
namespace Go.Pm
attribute [local irreducible] AR Ok inBlock andThen endQ aoper
section
variable {X : Cfg} {nt : Nat} {Q : Exit → Env → St → Prop} {env : Env} {σ : St} {K : AV → St → Prop}
end
end Go.Pm
