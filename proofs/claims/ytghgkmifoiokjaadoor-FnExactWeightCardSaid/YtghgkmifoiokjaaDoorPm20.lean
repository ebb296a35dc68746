/- The abstract machine, twentieth text: maps from strings that the call owns, reading and writing of rows, more arithmetic. -/
import Derived.Test.YtghgkmifoiokjaaDoorPm19
set_option linter.unusedVariables false
set_option linter.unusedSimpArgs false
namespace Go.Pm
attribute [local irreducible] AR Ok inBlock andThen endQ aoper
def sfind {β : Type} : List (ByteArray × β) → ByteArray → Option β
  | [], _ => none
  | (k, b) :: F, s => if s = k then some b else sfind F s
def sput {β : Type} : List (ByteArray × β) → ByteArray → β → List (ByteArray × β)
  | [], s, b => [(s, b)]
  | (k, u) :: F, s, b => if s = k then (k, b) :: F else (k, u) :: sput F s b
theorem sfind_sput {β : Type} (s : ByteArray) (b : β) (t : ByteArray) : ∀ F : List (ByteArray × β), sfind (sput F s b) t = if t = s then some b else sfind F t
  | [] => by simp [sput, sfind]
  | (k, u) :: F => by
    have ih := sfind_sput s b t F
    simp only [sput]
    by_cases h : s = k
    · subst h; simp only [if_true, sfind]; split <;> rfl
    · simp only [h, if_false, sfind, ih]
      by_cases h2 : t = k
      · subst h2; simp [Ne.symm h]
      · simp [h2]
def smap {β : Type} (e : β → AV) (F : List (ByteArray × β)) : List (Value × AV) := F.map fun y => (.string y.1, e y.2)
theorem afind_smap {β : Type} (e : β → AV) (s : ByteArray) : ∀ F : List (ByteArray × β), afind (smap e F) (.string s) = (sfind F s).map e
  | [] => rfl
  | (k, b) :: F => by
    have ih := afind_smap e s F
    simp only [smap, List.map_cons, afind, keyEq, sfind] at ih ⊢
    by_cases h : s = k
    · simp [h]
    · simp [h, ih]
theorem aput_smap {β : Type} (e : β → AV) (s : ByteArray) (b : β) : ∀ F : List (ByteArray × β), aput (smap e F) (.string s) (e b) = smap e (sput F s b)
  | [] => rfl
  | (k, u) :: F => by
    have ih := aput_smap e s b F
    simp only [smap, List.map_cons, aput, keyEq, sput] at ih ⊢
    by_cases h : s = k
    · simp [h]
    · simp [h, ih]
theorem smap_low {β : Type} {e : β → AV} {n : Nat} (h : ∀ b, low n (e b) = true) (F : List (ByteArray × β)) : ∀ y ∈ smap e F, low n y.2 = true := by
  intro y hy
  obtain ⟨z, _, rfl⟩ := List.mem_map.1 hy
  exact h _
theorem tRows_get {α : Type} {e : α → List D} {l : List α} {m k : Nat} {z : List AV} {y : α} (h : l[k]? = some y) : (tRows e l m z)[k]? = some ((e y).map .d) := by
  have hlt : k < (im2 e l).length := by rw [im2_length]; exact (List.getElem?_eq_some_iff.1 h).1
  unfold tRows
  rw [List.getElem?_append_left hlt]
  simp [im2, h]
theorem im2_get {α : Type} {e : α → List D} {l : List α} {k : Nat} {y : α} (h : l[k]? = some y) : (im2 e l)[k]? = some ((e y).map .d) := by simp [im2, h]
theorem tRows_low {α : Type} (e : α → List D) (l : List α) (m n : Nat) {z : List AV} (hz : lows n z = true) : ∀ r ∈ tRows e l m z, lows n r = true := by
  intro r hr
  unfold tRows at hr
  rcases List.mem_append.1 hr with h | h
  · exact im2_low e _ n r h
  · rw [(List.mem_replicate.1 h).2]; exact hz
/-- m rows, of which the first stand for a list. -/
def fil {α : Type} (e : α → List D) (l : List α) (m : Nat) (z : List AV) : List (List AV) := tRows e l (m - l.length) z
theorem fil_get {α : Type} {e : α → List D} {l : List α} {m k : Nat} {z : List AV} {y : α} (h : l[k]? = some y) : (fil e l m z)[k]? = some ((e y).map .d) := tRows_get h
theorem fil_low {α : Type} (e : α → List D) (l : List α) (m n : Nat) {z : List AV} (hz : lows n z = true) : ∀ r ∈ fil e l m z, lows n r = true := tRows_low e l _ n hz
theorem fil_all {α : Type} {e : α → List D} {l : List α} {m : Nat} {z : List AV} (h : m ≤ l.length) : fil e l m z = im2 e l := by
  unfold fil
  rw [show m - l.length = 0 by omega, tRows_zero]
def eInt (n : Int) : List D := [.s (.int .i64 n)]
def eBool (b : Bool) : List D := [.s (.bool b)]
def cInt (n : Int) : List AV := [vi n]
section
variable {X : Cfg} {nt : Nat} {ops : Array Oper} {rest : List Oper} {Q : Exit → Env → St → Prop} {K : AV → St → Prop} {env : Env} {σ σ' : St} {r : AV}
/-- A look into an own map, with the word whether it is there. -/
theorem Ya {β : Type} {e : β → AV} {d0 : β} {F : List (ByteArray × β)} {s : ByteArray} {i : Nat} {m k : Operand} {t kt et : TypeId} {ti tk te : TI} (hK : K (.tup [e ((sfind F s).getD d0), vb (sfind F s).isSome]) σ) (hm : aev X env m = .mp i := by exact rfl) (hk : aev X env k = vs s := by exact rfl)
    (ho : σ.obj i = some (.map .string (smap e F)) := by exact rfl) (h1 : X.T t = some ti := by exact rfl) (h2 : ti.kind = .map kt et := by exact rfl) (h3 : X.T kt = some tk := by exact rfl) (h4 : X.T et = some te := by exact rfl) (h5 : tk.kind = .string := by exact rfl) (h6 : azero te = e d0 := by exact rfl) :
    aoper X (.lookup t m k true) env σ Q K := by
  simp only [aoper, aop, alookup]
  refine ⟨ti, h1, kt, et, h2, tk, te, h3, h4, .string s, hk, by rw [h5]; rfl, by simp only [hm, kindOfMap, ho, h5], smap e F, by simp only [hm, entriesOf, ho], ?_⟩
  rw [afind_smap, h6]
  simp only [if_true]
  cases hq : sfind F s <;> rw [hq] at hK <;> exact hK
/-- A look into an own map. -/
theorem Yb {β : Type} {e : β → AV} {d0 : β} {F : List (ByteArray × β)} {s : ByteArray} {i : Nat} {m k : Operand} {t kt et : TypeId} {ti tk te : TI} (hK : K (e ((sfind F s).getD d0)) σ) (hm : aev X env m = .mp i := by exact rfl) (hk : aev X env k = vs s := by exact rfl)
    (ho : σ.obj i = some (.map .string (smap e F)) := by exact rfl) (h1 : X.T t = some ti := by exact rfl) (h2 : ti.kind = .map kt et := by exact rfl) (h3 : X.T kt = some tk := by exact rfl) (h4 : X.T et = some te := by exact rfl) (h5 : tk.kind = .string := by exact rfl) (h6 : azero te = e d0 := by exact rfl) :
    aoper X (.lookup t m k false) env σ Q K := by
  simp only [aoper, aop, alookup]
  refine ⟨ti, h1, kt, et, h2, tk, te, h3, h4, .string s, hk, by rw [h5]; rfl, by simp only [hm, kindOfMap, ho, h5], smap e F, by simp only [hm, entriesOf, ho], ?_⟩
  rw [afind_smap, h6]
  simp only [Bool.false_eq_true, if_false]
  cases hq : sfind F s <;> rw [hq] at hK <;> exact hK
/-- An own map is written. -/
theorem Yc {β : Type} {e : β → AV} {b : β} {F : List (ByteArray × β)} {s : ByteArray} {i : Nat} {m k x : Operand} {t kt et : TypeId} {ti tk : TI} (hK : K (.d (.s undef)) (σ.set i (.map .string (smap e (sput F s b))))) (hm : aev X env m = .mp i := by exact rfl) (hk : aev X env k = vs s := by exact rfl)
    (ho : σ.obj i = some (.map .string (smap e F)) := by exact rfl) (hx : aev X env x = e b := by exact rfl) (h1 : X.T t = some ti := by exact rfl) (h2 : ti.kind = .map kt et := by exact rfl) (h3 : X.T kt = some tk := by exact rfl) (h5 : tk.kind = .string := by exact rfl) :
    aoper X (.mapUpdate t m k x) env σ Q K := by
  simp only [aoper, aop, amapUpdate]
  refine ⟨ti, h1, kt, et, h2, tk, h3, .string s, hk, by rw [h5]; rfl, i, hm, smap e F, by rw [h5]; exact ho, ?_⟩
  rw [hx, aput_smap, h5]
  exact hK
/-- A new map. -/
theorem Yd {t kt et n : Nat} {ti tk : TI} {kk : KD} (hK : K (.mp n) (σ.alloc (.map kk []))) (h1 : X.T t = some ti := by exact rfl) (h2 : ti.kind = .map kt et := by exact rfl) (h3 : X.T kt = some tk := by exact rfl) (h5 : tk.kind = kk := by exact rfl) (hn : natF σ.next = some n := by exact rfl) : aoper X (.makeMap t none) env σ Q K := by
  have hn := natF_eq hn
  subst hn
  subst h5
  exact (by simp only [aoper, aop, amakeMap]; exact ⟨ti, h1, kt, et, h2, tk, h3, hK⟩)
/-- A cell of a row is read. -/
theorem Ye {cells : List AV} {rows : List (List AV)} {p : Operand} {i v k el sz t : Nat} {ti : TI} (hr : rows[k]? = some cells) (hK : K r σ) (hp : aev X env p = .ep i v k 0 := by exact rfl) (ho : σ.obj i = some (.row v el sz rows) := by exact rfl) (ht : X.T t = some ti := by exact rfl)
    (hc : pieceF (isAggK ti.kind) cells 0 ti.size = some r := by exact rfl) : aoper X (.load t p) env σ Q K := by
  simp only [aoper, aop, aload]
  exact ⟨ti, ht, (cells, 0), by simp only [hp, behind, ho, if_true, hr, Option.map_some], r, pieceF_eq hc, hK⟩
/-- The place of a row's element. -/
theorem Yf {t i v hi el : Nat} {n : Int} {ti te : TI} {rows : List (List AV)} {x y : Operand} (k : Nat) (hn : n = (k : Int)) (hlt : k < hi) (h : K (.ep i v k 0) σ) (hx : aev X env x = .sl i v 0 hi := by exact rfl) (hy : aev X env y = vi n := by exact rfl) (ht : X.T t = some ti := by exact rfl) (hk : ti.kind = .slice el := by exact rfl)
    (hte : X.T el = some te := by exact rfl) (ho : σ.obj i = some (.row v el te.size rows) := by exact rfl) : aoper X (.indexAddr t x y) env σ Q K := by
  subst hn
  exact op_place hx hy hlt ht hk hte ho h
/-- Products. -/
theorem Yg {t ty : TypeId} {x y : Operand} {m n : Int} (hk : K (vi (m * n)) σ) (hx : aev X env x = vi m := by exact rfl) (hy : aev X env y = vi n := by exact rfl) (h : -9223372036854775808 ≤ m * n ∧ m * n ≤ 9223372036854775807 := by omega) : aoper X (.binOp .mul t x y ty) env σ Q K :=
  op_bin hx hy (by simp only [abin, if_true, wrap_id h.1 h.2]) hk
/-- The lesser, the greater. -/
theorem Yh {x y : Operand} {m n : Int} {as : Array Operand} {ts : Array TypeId} (hk : K (vi (min m n)) σ) (h1 : as.toList = [x, y] := by exact rfl) (hx : aev X env x = vi m := by exact rfl) (hy : aev X env y = vi n := by exact rfl) : aoper X (.call ⟨.builtin .min, as, ts⟩) env σ Q K := by
  simp only [aoper, h1, abuiltin, aminmax, hx, hy]
  have : min m n = (if n < m then n else m) := by omega
  rw [this] at hk
  exact hk
theorem Yi {x y : Operand} {m n : Int} {as : Array Operand} {ts : Array TypeId} (hk : K (vi (max m n)) σ) (h1 : as.toList = [x, y] := by exact rfl) (hx : aev X env x = vi m := by exact rfl) (hy : aev X env y = vi n := by exact rfl) : aoper X (.call ⟨.builtin .max, as, ts⟩) env σ Q K := by
  simp only [aoper, h1, abuiltin, aminmax, hx, hy]
  have : max m n = (if n > m then n else m) := by omega
  rw [this] at hk
  exact hk
/-- A row of zero values. -/
theorem Yj {t el n k : Nat} {ti te : TI} {l c : Operand} (hk' : k ≤ 4294967296) (h : K (.sl n n 0 k) (σ.alloc (.row n el te.size (List.replicate k (zrow te))))) (hl : aev X env l = vi (k : Int) := by exact rfl) (hc : aev X env c = vi (k : Int) := by exact rfl) (ht : X.T t = some ti := by exact rfl) (hk : ti.kind = .slice el := by exact rfl) (hte : X.T el = some te := by exact rfl)
    (hp : Nat.blt 0 te.size = true := by exact rfl) (hb : Nat.ble te.bytes 32768 = true := by exact rfl) (hn : natF σ.next = some n := by exact rfl) : aoper X (.makeSlice t l c) env σ Q K := op_make hl hc hk' ht hk hte hp hb hn h
/-- The next row is written. -/
theorem Yk {α : Type} {e : α → List D} {l : List α} {m : Nat} {z : List AV} {t i v el sz k : Nat} {ti : TI} {p x : Operand} {cs : List AV} (y : α) (hkl : k = l.length) (hlt : l.length < m) (h1 : ∀ c ∈ (e y), AV.one (.d c) = true) (h : K (.d (.s undef)) (σ.set i (.row v el sz (fil e (l ++ [y]) m z))))
    (hp : aev X env p = .ep i v k 0 := by exact rfl) (ht : X.T t = some ti := by exact rfl) (hx : cellsF (aev X env x) = some cs := by exact rfl) (hcs : cs = (e y).map .d := by exact rfl) (hl : (e y).length = ti.size := by exact rfl) (ho : σ.obj i = some (.row v el sz (fil e l m z)) := by exact rfl) (hz : z.length = ti.size := by exact rfl) :
    aoper X (.store t p x) env σ Q K := by
  subst hkl
  have e1 : fil e l m z = tRows e l (m - (l.length + 1) + 1) z := by unfold fil; congr 1; omega
  have e2 : fil e (l ++ [y]) m z = tRows e (l ++ [y]) (m - (l.length + 1)) z := by unfold fil; simp
  rw [e1] at ho
  rw [e2] at h
  exact op_put hp ht hx hcs hl h1 hz ho h
/-- One list more. -/
theorem Yl {α : Type} {e : α → List D} {l : List α} (m : List α) {xrows : List (List D)} {as : Array Operand} {ts : Array TypeId} {s x : Operand} {t tx el i v n hi bb : Nat} {ti te tix : TI} (h : K (.sl i n 0 (l ++ m).length) (bumpSet σ i (.row n el te.size (im2 e (l ++ m)))))
    (h1 : as.toList = [s, x] := by exact rfl) (h2 : ts.toList = [t, tx] := by exact rfl) (hs : aev X env s = .sl i v 0 hi := by exact rfl) (ht : X.T t = some ti := by exact rfl) (hk : ti.kind = .slice el := by exact rfl) (hte : X.T el = some te := by exact rfl) (hp : Nat.blt 0 te.size = true := by exact rfl) (hpb : Nat.blt 0 te.bytes = true := by exact rfl)
    (htx : X.T tx = some tix := by exact rfl) (hkx : tix.kind = .slice el := by exact rfl) (ho : σ.obj i = some (.row v el te.size (im2 e l)) := by exact rfl) (hhi : hi = l.length := by exact rfl) (hx : aev X env x = .d (.im xrows) := by exact rfl) (hxr : xrows = m.map e := by exact rfl) (hsz : ∀ y : α, (e y).length = te.size := by exact fun _ => rfl) (hn : natF σ.next = some n := by exact rfl)
    (hbb : te.bytes = bb := by exact rfl) (hb : (l.length + m.length) * bb ≤ 140737488355328 := by first | omega | (simp only [List.length_cons, List.length_nil, List.length_append]; omega)) :
    aoper X (.call ⟨.builtin .append, as, ts⟩) env σ Q K := by subst hhi; subst hbb; exact op_append hs h1 h2 ht hk hte hp hpb htx hkx ho hx hxr hsz hb hn h
end
end Go.Pm
