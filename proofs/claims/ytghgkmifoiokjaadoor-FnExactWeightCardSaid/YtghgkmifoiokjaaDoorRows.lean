/-
  NARROWER THAN 'FOR EVERY INPUT', by the rows' own cells (each row's printed sentence says how): FnExactShapeOK: maps, laid · FnExactWeight: maps, laid.
  DERIVED. THE GIVEN ROWS OF THIS SEAT. 2 by the template 'for every input the law returns true; each argument reads behind the call as it read before'; 0 by the template 'total and deterministic' (their statements: YtghgkmifoiokjaaDoorTotals.lean).
  GIVEN WITH THE SEED: the statements are not yours to turn. If you find one false, say at which input.
  Laid BY PROGRAM, IN A SANDBOX (cutbox-rows.mjs): the forced cells as the released guide's own fill.sh prints them over the translation f6c1378cc1053ac5… (all of the seat's roots in one cut). By AI agents, Wed Nov 11 2026. No macro, syntax, notation, axiom, sorry.
-/
import Derived.Test.YtghgkmifoiokjaaDoorChecked
import GoSem.Claim
import GoSem.ClaimJoined
import GoSem.ClaimMapViews
import Derived.JoinedTies
import Derived.KernelRfl
namespace Go.Proofs.YtghgkmifoiokjaaDoor
/- THE CELL 'sum', in the pinned program and in every row, IS THE sha256 OF THE DUMP (.gsa) THAT YtghgkmifoiokjaaDoorProg.lean LOADS. Nothing in Lean hashes anything: it is a label: what it is worth is what the hold of that sum in a sandbox is worth. -/
noncomputable def Tryd.pinned : Pinned := { name := "ytghgkmifoiokjaadoor", sum := "f6c1378cc1053ac52086498e988b5a6d4e6ba0c18a60b086b6928478c531ccdf", checked := Tryd.checked }
namespace Rows
def none {H : Type} : Left H := { results := [], args := [] }

/- WHAT THE LISTED PACKAGE-LEVEL VARIABLES READ AS WHEN THE CALL BEGINS. Each datum BY PROGRAM (the guide's laid-datum.mjs) off the statement by which the dump's own 'gosem.cut.vars' lays the variable. In a bare row this is a premise. The card (YtghgkmifoiokjaaDoorCards.lean) ties it to the program's text. -/
def laid_loop_example_s0043_impl_keywords {H : Type} : DataW H := .map [(.string [97, 110, 100], .lit (.bool true)), (.string [98, 111, 111, 108], .lit (.bool true)), (.string [101, 108, 115, 101], .lit (.bool true)), (.string [102, 97, 108, 115, 101], .lit (.bool true)), (.string [102, 98, 121], .lit (.bool true)), (.string [105, 102], .lit (.bool true)), (.string [105, 110, 116], .lit (.bool true)), (.string [108, 101, 116], .lit (.bool true)), (.string [109, 101, 114, 103, 101], .lit (.bool true)), (.string [109, 111, 100], .lit (.bool true)), (.string [110, 111, 100, 101], .lit (.bool true)), (.string [110, 111, 116], .lit (.bool true)), (.string [111, 114], .lit (.bool true)), (.string [114, 101, 116, 117, 114, 110, 115], .lit (.bool true)), (.string [116, 101, 108], .lit (.bool true)), (.string [116, 104, 101, 110], .lit (.bool true)), (.string [116, 114, 117, 101], .lit (.bool true)), (.string [118, 97, 114], .lit (.bool true)), (.string [119, 104, 101, 110], .lit (.bool true)), (.string [119, 104, 101, 110, 111, 116], .lit (.bool true)), (.string [120, 111, 114], .lit (.bool true))]

/-- 'laws.FnExactShapeOK': WHATEVER THE INPUT: true; the input reads as it did. -/
def fnExactShapeOKSpec : ChangeSpec := { name := "fnExactShapeOK", vars := ["loop.example/s0043/impl.keywords"], fn := fun _ => fun
  | [d, g1] => { results := [.lit (.bool true)], args := [d], vars := [g1] }
  | _ => none }
def fnExactShapeOKRow : OpenClaim := { program := "ytghgkmifoiokjaadoor", sum := "f6c1378cc1053ac52086498e988b5a6d4e6ba0c18a60b086b6928478c531ccdf", func := "loop.example/s0043/laws.FnExactShapeOK", spec := "fnExactShapeOK", named := ["loop.example/s0043/impl.keywords"], maps := true, apart := false, laid := [("loop.example/s0043/impl.keywords", laid_loop_example_s0043_impl_keywords)] }
def FnExactShapeOKSaid : Prop := fnExactShapeOKRow.holds Tryd.pinned (OpenSpec.ofChange fnExactShapeOKSpec)

/-- ITS FALSE NEIGHBOUR: 'it returns false'. Refute it at one input. -/
def fnExactShapeOKWrong : ChangeSpec := { name := "fnExactShapeOK", vars := ["loop.example/s0043/impl.keywords"], fn := fun _ => fun
  | [d, g1] => { results := [.lit (.bool false)], args := [d], vars := [g1] }
  | _ => none }
def FnExactShapeOKWrongFalsely : Prop := fnExactShapeOKRow.holds Tryd.pinned (OpenSpec.ofChange fnExactShapeOKWrong)

/-- 'laws.FnExactWeight': WHATEVER THE INPUT: true; the input reads as it did. -/
def fnExactWeightSpec : ChangeSpec := { name := "fnExactWeight", vars := ["loop.example/s0043/impl.keywords"], fn := fun _ => fun
  | [d1, d2, g1] => { results := [.lit (.bool true)], args := [d1, d2], vars := [g1] }
  | _ => none }
def fnExactWeightRow : OpenClaim := { program := "ytghgkmifoiokjaadoor", sum := "f6c1378cc1053ac52086498e988b5a6d4e6ba0c18a60b086b6928478c531ccdf", func := "loop.example/s0043/laws.FnExactWeight", spec := "fnExactWeight", named := ["loop.example/s0043/impl.keywords"], maps := true, apart := false, laid := [("loop.example/s0043/impl.keywords", laid_loop_example_s0043_impl_keywords)] }
def FnExactWeightSaid : Prop := fnExactWeightRow.holds Tryd.pinned (OpenSpec.ofChange fnExactWeightSpec)

/-- ITS FALSE NEIGHBOUR: 'it returns false'. Refute it at one input. -/
def fnExactWeightWrong : ChangeSpec := { name := "fnExactWeight", vars := ["loop.example/s0043/impl.keywords"], fn := fun _ => fun
  | [d1, d2, g1] => { results := [.lit (.bool false)], args := [d1, d2], vars := [g1] }
  | _ => none }
def FnExactWeightWrongFalsely : Prop := fnExactWeightRow.holds Tryd.pinned (OpenSpec.ofChange fnExactWeightWrong)

/- THE SECOND FORM. 'bulk': how many values and letters a reading holds, each counted each time it is reached (what is shared counts as often as it is met; a slice's spare places count too). A statement '..UptoSaid' is the law's where the arguments, and the package variables that the reading takes, are together of bulk at most 1048576: NARROWER than '..Said'. Prove '..Said' where nothing that the law and all that it calls make is longer than what came in: it says more and counts as full. Else prove '..UptoSaid'. A law counts once. -/
mutual
def uptoBulk {H : Type} : DataW H → Nat
  | .lit (.string bytes) => bytes.length + 1
  | .lit _ => 1
  | .nil => 1
  | .ptr d => uptoBulk d + 1
  | .slice elems spare => uptoBulkAll elems + uptoBulkAll spare + 1
  | .agg parts => uptoBulkAll parts + 1
  | .iface _ d => uptoBulk d + 1
  | .map entries => uptoBulkEntries entries + 1
  | .held _ => 1
def uptoBulkAll {H : Type} : List (DataW H) → Nat
  | [] => 0
  | d :: r => uptoBulk d + uptoBulkAll r
def uptoBulkEntries {H : Type} : List (Lit × DataW H) → Nat
  | [] => 0
  | x :: r => uptoBulkEntry x + uptoBulkEntries r
def uptoBulkEntry {H : Type} : Lit × DataW H → Nat
  | (.string bytes, d) => bytes.length + uptoBulk d + 1
  | (_, d) => uptoBulk d + 1
 end
def uptoSmall : (H : Type) → List (DataW H) → Bool := fun _ ds => decide (uptoBulkAll ds ≤ 1048576)
def OpenSpec.upto (s : _root_.Go.ChangeSpec) : _root_.Go.OpenSpec := { _root_.Go.OpenSpec.ofChange s with cond := some uptoSmall }

/-- 'laws.FnExactShapeOK', WHERE WHAT IT READS IS OF BULK AT MOST 1048576: true; the input reads as it did. -/
def fnExactShapeOKUptoRow : OpenClaim := { program := "ytghgkmifoiokjaadoor", sum := "f6c1378cc1053ac52086498e988b5a6d4e6ba0c18a60b086b6928478c531ccdf", func := "loop.example/s0043/laws.FnExactShapeOK", spec := "fnExactShapeOK", named := ["loop.example/s0043/impl.keywords"], maps := true, apart := false, laid := [("loop.example/s0043/impl.keywords", laid_loop_example_s0043_impl_keywords)], narrowed := true }
def FnExactShapeOKUptoSaid : Prop := fnExactShapeOKUptoRow.holds Tryd.pinned (OpenSpec.upto fnExactShapeOKSpec)

/-- 'laws.FnExactWeight', WHERE WHAT IT READS IS OF BULK AT MOST 1048576: true; the input reads as it did. -/
def fnExactWeightUptoRow : OpenClaim := { program := "ytghgkmifoiokjaadoor", sum := "f6c1378cc1053ac52086498e988b5a6d4e6ba0c18a60b086b6928478c531ccdf", func := "loop.example/s0043/laws.FnExactWeight", spec := "fnExactWeight", named := ["loop.example/s0043/impl.keywords"], maps := true, apart := false, laid := [("loop.example/s0043/impl.keywords", laid_loop_example_s0043_impl_keywords)], narrowed := true }
def FnExactWeightUptoSaid : Prop := fnExactWeightUptoRow.holds Tryd.pinned (OpenSpec.upto fnExactWeightSpec)

end Rows
end Go.Proofs.YtghgkmifoiokjaaDoor
