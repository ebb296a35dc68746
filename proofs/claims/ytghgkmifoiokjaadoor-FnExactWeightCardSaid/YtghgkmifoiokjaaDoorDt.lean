/- The data of the source language, and how they stand for rows of cells. -/
import Derived.Test.YtghgkmifoiokjaaDoorPm17
set_option linter.unusedVariables false
namespace Go.Pm
structure Itm where
  op : Int
  val : Int
  name : ByteArray
structure Cnd where
  name : ByteArray
  on : Bool
structure Vr where
  name : ByteArray
  type : Int
  clock : List Cnd
structure Eqn where
  lhs : List ByteArray
  code : List Itm
  call : ByteArray
  args : List (List Itm)
structure Nod where
  name : ByteArray
  ins : List Vr
  outs : List Vr
  vars : List Vr
  eqs : List Eqn
def eStr (s : ByteArray) : List D := [.s (.string s)]
def eItm (x : Itm) : List D := [.s (.int .i64 x.op), .s (.int .i64 x.val), .s (.string x.name)]
def eItms (l : List Itm) : List D := [.im (l.map eItm)]
def eCnd (x : Cnd) : List D := [.s (.string x.name), .s (.bool x.on)]
def eVr (x : Vr) : List D := [.s (.string x.name), .s (.int .i64 x.type), .im (x.clock.map eCnd)]
def eEqn (x : Eqn) : List D := [.im (x.lhs.map eStr), .im (x.code.map eItm), .s (.string x.call), .im (x.args.map eItms)]
def eNod (x : Nod) : List D := [.s (.string x.name), .im (x.ins.map eVr), .im (x.outs.map eVr), .im (x.vars.map eVr), .im (x.eqs.map eEqn)]
/-- Weights, as the laws count them. -/
def wL {α : Type} (w : α → Nat) (l : List α) : Nat := l.length + (l.map w).sum
def wStr (s : ByteArray) : Nat := s.size
def wItm (x : Itm) : Nat := x.name.size
def wCnd (x : Cnd) : Nat := x.name.size
def wVr (x : Vr) : Nat := x.name.size + wL wCnd x.clock
def wEqn (x : Eqn) : Nat := wL wStr x.lhs + wL wItm x.code + x.call.size + wL (wL wItm) x.args
def wNod (x : Nod) : Nat := x.name.size + wL wVr x.ins + wL wVr x.outs + wL wVr x.vars + wL wEqn x.eqs
/-- Nothing is longer than a length can be. -/
def mx : Nat := 9223372036854775807
def dL {α : Type} (p : α → Prop) (l : List α) : Prop := l.length ≤ mx ∧ ∀ x ∈ l, p x
def dStr (s : ByteArray) : Prop := s.size ≤ mx
def dItm (x : Itm) : Prop := x.name.size ≤ mx
def dCnd (x : Cnd) : Prop := x.name.size ≤ mx
def dVr (x : Vr) : Prop := x.name.size ≤ mx ∧ dL dCnd x.clock
def dEqn (x : Eqn) : Prop := dL dStr x.lhs ∧ dL dItm x.code ∧ x.call.size ≤ mx ∧ dL (dL dItm) x.args
def dNod (x : Nod) : Prop := x.name.size ≤ mx ∧ dL dVr x.ins ∧ dL dVr x.outs ∧ dL dVr x.vars ∧ dL dEqn x.eqs
/-- What is left of a budget, or -1. -/
def subI (left : Int) (n : Nat) : Int := if left < n then -1 else left - n
theorem subI_neg {left : Int} {n : Nat} (h : subI left n < 0) : left < n ∧ subI left n = -1 := by unfold subI at h ⊢; split at h <;> (first | (rename_i h1; exact ⟨h1, if_pos h1⟩) | omega)
theorem subI_pos {left : Int} {n : Nat} (h : ¬ subI left n < 0) (h0 : 0 ≤ left) : (n : Int) ≤ left ∧ subI left n = left - n := by unfold subI at h ⊢; split at h <;> (first | (rename_i h1; exact ⟨by omega, if_neg h1⟩) | omega)
theorem subI_over {left : Int} {n : Nat} (h : left < n) : subI left n = -1 := if_pos h
theorem subI_in {left : Int} {n : Nat} (h : (n : Int) ≤ left) : subI left n = left - n := if_neg (by omega)
theorem subI_add {left : Int} {n m : Nat} (h : (n : Int) ≤ left) : subI (left - n) m = subI left (n + m) := by unfold subI; split <;> split <;> omega
end Go.Pm
