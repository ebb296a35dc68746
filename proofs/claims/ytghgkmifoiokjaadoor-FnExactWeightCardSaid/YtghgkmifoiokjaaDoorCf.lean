/- The program of this seat for the abstract machine, with what its package-level variables hold. -/
import Derived.Test.YtghgkmifoiokjaaDoorPm21
import Derived.Test.YtghgkmifoiokjaaDoorDt
import Derived.Test.YtghgkmifoiokjaaDoorTy
set_option linter.unusedVariables false
namespace Go.Pm
def kwBytes : List (List UInt8) := [[97, 110, 100], [98, 111, 111, 108], [101, 108, 115, 101], [102, 97, 108, 115, 101], [102, 98, 121], [105, 102], [105, 110, 116], [108, 101, 116], [109, 101, 114, 103, 101], [109, 111, 100], [110, 111, 100, 101], [110, 111, 116], [111, 114], [114, 101, 116, 117, 114, 110, 115], [116, 101, 108], [116, 104, 101, 110], [116, 114, 117, 101], [118, 97, 114], [119, 104, 101, 110], [119, 104, 101, 110, 111, 116], [120, 111, 114]]
def kwS : List ByteArray := kwBytes.map fun l => ⟨l.toArray⟩
def gl (g : Nat) : Option (List D) := if g = 0 then some [.mp .string (wordMap kwS)] else none
noncomputable def X : Cfg := mkCfg Go.Proofs.Tryd.prog gl tyL tyL_ok
theorem X_mixed : X.P.follows .mixedOrders = true := by kernel_rfl
@[simp] theorem X_T (t : TypeId) : X.T t = look tyL t := rfl
@[simp] theorem X_G (g : Nat) : X.G g = gl g := rfl
attribute [simp] look3 look4 look5 look9 look27 look36 look37 look39 look42 look44 look46 look47 look48 look49 look51 look54 look66 look69
end Go.Pm
