/- The abstract machine, eighteenth text: rows that are filled one by one, and what a function gives back. -/
import Derived.Test.YtghgkmifoiokjaaDoorPm17
set_option linter.unusedVariables false
set_option linter.unusedSimpArgs false
namespace Go.Pm
attribute [local irreducible] AR Ok inBlock andThen endQ aoper
/-- Rows of which the first k stand for those of a list, the others are zero. -/
def trk {α : Type} (e : α → List D) (l : List α) (k : Nat) (z : List AV) : List (List AV) := tRows e (l.take k) (l.length - k) z
theorem trk_set {α : Type} {e : α → List D} {l : List α} {k : Nat} {z : List AV} {y : α} (hx : l[k]? = some y) : (trk e l k z).set k ((e y).map .d) = trk e l (k + 1) z := by
  have hlt := (drop_some hx).2
  have hy := (List.getElem?_eq_some_iff.1 hx).2
  have h1 : (l.take k).length = k := by simp; omega
  have h2 : l.length - k = (l.length - (k + 1)) + 1 := by omega
  have h3 : l.take (k + 1) = l.take k ++ [y] := by rw [List.take_add_one, hx]; rfl
  unfold trk
  rw [h2, h3]
  have := tRows_set e (l.take k) (l.length - (k + 1)) z y
  rw [h1] at this
  exact this
theorem trk_all {α : Type} {e : α → List D} {l : List α} {k : Nat} {z : List AV} (h : l.length ≤ k) : trk e l k z = im2 e l := by
  unfold trk
  rw [show l.length - k = 0 by omega, tRows_zero, List.take_of_length_le h]
theorem trk_get {α : Type} {e : α → List D} {l : List α} {k : Nat} {z : List AV} {y : α} (hx : l[k]? = some y) : (trk e l k z)[k]? = some z := by
  have hlt := (drop_some hx).2
  unfold trk tRows
  have h1 : (im2 e (l.take k)).length = k := by rw [im2_length]; simp; omega
  rw [List.getElem?_append_right (by omega), h1, Nat.sub_self, show l.length - k = (l.length - (k + 1)) + 1 by omega]
  simp
theorem lows_map_d (n : Nat) : ∀ l : List D, lows n (l.map .d) = true
  | [] => rfl
  | _ :: l => by simp only [List.map_cons, lows, low, lows_map_d n l, Bool.and_self]
theorem im2_low {α : Type} (e : α → List D) (l : List α) (n : Nat) : ∀ r ∈ im2 e l, lows n r = true := by
  intro r hr
  simp only [im2, List.map_map, List.mem_map, Function.comp] at hr
  obtain ⟨y, _, rfl⟩ := hr
  exact lows_map_d n _
theorem trk_low {α : Type} (e : α → List D) (l : List α) (k n : Nat) {z : List AV} (hz : lows n z = true) : ∀ r ∈ trk e l k z, lows n r = true := by
  intro r hr
  unfold trk tRows at hr
  rcases List.mem_append.1 hr with h | h
  · exact im2_low e _ n r h
  · rw [(List.mem_replicate.1 h).2]; exact hz

section rows
variable {X : Cfg} {nt : Nat} {Q : Exit → Env → St → Prop} {K : AV → St → Prop} {env : Env} {σ σ' : St}
/-- The next row is written. -/
theorem op_putk {α : Type} {e : α → List D} {l : List α} {k : Nat} {z : List AV} {y : α} {t i v el sz : Nat} {ti : TI} {p x : Operand} {cs : List AV} (hx : l[k]? = some y) (hp : aev X env p = .ep i v k 0) (ht : X.T t = some ti) (hxc : cellsF (aev X env x) = some cs) (hcs : cs = (e y).map .d)
    (hl : (e y).length = ti.size) (h1 : ((e y).map AV.d).all AV.one = true) (hz : z.length = ti.size) (ho : σ.obj i = some (.row v el sz (trk e l k z))) (h : K (.d (.s undef)) (σ.set i (.row v el sz (trk e l (k + 1) z)))) : aoper X (.store t p x) env σ Q K := by
  subst hcs
  simp only [aoper, aop, astore]
  refine ⟨ti, ht, _, cellsF_eq hxc, by simpa using hl, h1, ?_⟩
  simp only [hp]
  refine ⟨el, sz, _, ho, z, trk_get hx, by omega, ?_⟩
  have e1 : splice z 0 ((e y).map .d) = (e y).map .d := by simp [splice, hz, hl]
  rw [e1, trk_set hx]
  exact h

theorem fz_rows {α : Type} {e : α → List D} {l : List α} {rows : List (List AV)} (hrows : rows = im2 e l) (t : Nat) {i v el sz n : Nat} (ht : env t = .sl i v 0 n) (ho : σ.obj i = some (.row v el sz rows)) (hn : n = l.length)
    (h : Ok X nt .ret Q (envL [(t, .d (.im (l.map e)))]) ⟨fun _ => none, σ.next⟩) : Ok X nt .ret Q env σ := by
  subst hrows
  exact fz_ret t ht ho hn h

theorem retc {t ty : Nat} {ti : TI} {co : List AV × Nat} {K : AEnd → St → Prop} {x : AV} (ht : X.T ty = some ti) (hb : behind σ (env t) = some co) (h : pieceF (isAggK ti.kind) co.1 co.2 ti.size = some x) (hx : K (.ret x) σ) : endQ X #[.cell t ty].toList K .ret env σ := by
  unfold endQ
  simp only [ares, aload]
  exact ⟨ti, ht, co, hb, x, pieceF_eq h, hx⟩
/-- A difference that is known. -/
theorem op_subr {t ty : TypeId} {x y : Operand} {m n r : Int} (hx : aev X env x = vi m) (hy : aev X env y = vi n) (hr : m - n = r) (h : -9223372036854775808 ≤ r ∧ r ≤ 9223372036854775807) (hk : K (vi r) σ) : aoper X (.binOp .sub t x y ty) env σ Q K := by
  subst hr; exact op_sub hx hy h hk
theorem op_addr {t ty : TypeId} {x y : Operand} {m n r : Int} (hx : aev X env x = vi m) (hy : aev X env y = vi n) (hr : m + n = r) (h : -9223372036854775808 ≤ r ∧ r ≤ 9223372036854775807) (hk : K (vi r) σ) : aoper X (.binOp .add t x y ty) env σ Q K := by
  subst hr; exact op_add hx hy h hk
/-- Comparisons of truth values. -/
theorem op_eqb {t ty : TypeId} {x y : Operand} {ti : TI} {a b : Bool} (hx : aev X env x = vb a) (hy : aev X env y = vb b) (ht : X.T t = some ti) (hk : ti.kind = .bool) (h : K (vb (a == b)) σ) : aoper X (.binOp .eql t x y ty) env σ Q K := by
  simp only [aoper, aop, abinop, hx, hy, abin]
  exact ⟨ti, ht, a == b, by simp [aeq, hk], .inl ⟨trivial, h⟩⟩
theorem op_neb {t ty : TypeId} {x y : Operand} {ti : TI} {a b : Bool} (hx : aev X env x = vb a) (hy : aev X env y = vb b) (ht : X.T t = some ti) (hk : ti.kind = .bool) (h : K (vb (!(a == b))) σ) : aoper X (.binOp .neq t x y ty) env σ Q K := by
  simp only [aoper, aop, abinop, hx, hy, abin]
  exact ⟨ti, ht, a == b, by simp [aeq, hk], .inr ⟨trivial, h⟩⟩
end rows
end Go.Pm
