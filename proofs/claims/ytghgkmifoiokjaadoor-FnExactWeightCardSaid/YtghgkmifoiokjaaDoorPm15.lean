/- The abstract machine, fifteenth text: more operations of a region. -/
import Derived.Test.YtghgkmifoiokjaaDoorPm14
set_option linter.unusedVariables false
set_option linter.unusedSimpArgs false
namespace Go.Pm
attribute [local irreducible] AR Ok inBlock andThen endQ aoper
/-- The bytes of a string. -/
def bs (s : ByteArray) : List UInt8 := s.data.toList
theorem bs_length (s : ByteArray) : (bs s).length = s.size := by simp [bs]
theorem bs_get (s : ByteArray) (k : Nat) : s[k]? = (bs s)[k]? := by
  simp only [bs, Array.getElem?_toList]
  rfl
theorem bs_inj {s t : ByteArray} (h : bs s = bs t) : s = t := by
  cases s; cases t; simp only [bs] at h; congr; exact Array.toList_inj.1 h
theorem bs_nil {s : ByteArray} (h : bs s = []) : s.size = 0 := by rw [← bs_length, h]; rfl

section regs
variable {X : Cfg} {nt : Nat} {ops : Array Oper} {rest : List Oper} {Q : Exit → Env → St → Prop} {K : AV → St → Prop} {env : Env} {σ σ' : St} {dst : Option Tmp} {op : Op} {ty : TypeId} {pos : String} {after : Array Edge} {j d : Nat} {b want : Bool} {r : AV}

/-- A byte of a string, at a place that is known. -/
theorem op_b {s : ByteArray} {k : Nat} {n : Int} {ti : TI} {t : TypeId} {x i : Operand} {y : UInt8} (hx : aev X env x = vs s) (hi : aev X env i = vi n) (hl : (bs s)[k]? = some y) (hn : n = (k : Int))
    (ht : X.T t = some ti) (hk' : ti.kind = .string) (hk : K (.d (.s (.int .u8 y.toNat))) σ) : aoper X (.index t x i) env σ Q K :=
  by
  subst hn
  simp only [aoper, aop, aindex]
  refine ⟨k, ⟨_, hi⟩, Int.natCast_nonneg k, ti, ht, ?_⟩
  simp only [hk', hx]
  exact ⟨y, by rw [Int.toNat_natCast, bs_get]; exact hl, hk⟩

/-- A map from words to true. -/
def wordMap (ks : List ByteArray) : List (Value × D) := ks.map fun s => (.string s, .s (.bool true))
def hasWord (ks : List ByteArray) (s : ByteArray) : Bool := ks.any fun k => decide (s = k)
theorem afind_words (s : ByteArray) : ∀ ks : List ByteArray, afind ((wordMap ks).map fun e => (e.1, AV.d e.2)) (.string s) = if hasWord ks s then some (.d (.s (.bool true))) else none
  | [] => rfl
  | k :: ks => by
    have ih := afind_words s ks
    simp only [wordMap, List.map_cons, afind, keyEq] at ih ⊢
    by_cases h : s = k
    · simp [h, hasWord]
    · simp only [h, decide_false, ih, hasWord, List.any_cons, Bool.false_or]; rfl
theorem op_word {ks : List ByteArray} {s : ByteArray} {m k : Operand} {t : TypeId} (hm : aev X env m = .d (.mp .string (wordMap ks))) (hk : aev X env k = vs s) {ti tk te : TI} {kt et : TypeId} (h1 : X.T t = some ti) (h2 : ti.kind = .map kt et)
    (h3 : X.T kt = some tk) (h4 : X.T et = some te) (h5 : tk.kind = .string) (h6 : azero te = vb false) (hk' : K (vb (hasWord ks s)) σ) : aoper X (.lookup t m k false) env σ Q K := by
  simp only [aoper, aop, alookup]
  refine ⟨ti, h1, kt, et, h2, tk, te, h3, h4, .string s, hk, by rw [h5]; rfl, by rw [hm, h5]; rfl, _, by rw [hm]; rfl, ?_⟩
  rw [afind_words]
  cases hw : hasWord ks s with
  | true => rw [hw] at hk'; exact hk'
  | false => rw [hw] at hk'; show K (azero te) σ; rw [h6]; exact hk'
end regs
end Go.Pm
