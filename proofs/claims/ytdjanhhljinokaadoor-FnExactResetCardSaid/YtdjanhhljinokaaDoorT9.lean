/- The table of the types of this translation, as the abstract machine looks at them (printed by wip/gen_types.py), and that it fits the program. -/
import Derived.Test.YtdjanhhljinokaaDoorProg
import Derived.Test.YtdjanhhljinokaaDoorT3
import Derived.Test.YtdjanhhljinokaaDoorT7
import Derived.Test.YtdjanhhljinokaaDoorT5
import Derived.MakeChecks
import Derived.Test.YtdjanhhljinokaaDoorRows
set_option linter.unusedVariables false
namespace Go.Pm
def tyL : List (Option TI) := [
  none,
  some ⟨.func, 1, 8, [.nilFunc], false⟩,
  some ⟨.int .i64, 1, 8, [.int .i64 0], false⟩,
  some ⟨.int .i64, 1, 8, [.int .i64 0], false⟩,
  some ⟨.bool, 1, 1, [.bool false], false⟩,
  some ⟨.int .u8, 1, 1, [.int .u8 0], false⟩,
  some ⟨.int .u8, 1, 1, [.int .u8 0], false⟩,
  some ⟨.struct [(0, 2), (1, 3), (2, 4), (3, 6)], 4, 24, [.int .i64 0, .int .i64 0, .bool false, .int .u8 0], false⟩,
  some ⟨.struct [(0, 2), (1, 3), (2, 4), (3, 6)], 4, 24, [.int .i64 0, .int .i64 0, .bool false, .int .u8 0], false⟩,
  some ⟨.string, 1, 16, [.string .empty], false⟩,
  some ⟨.string, 1, 16, [.string .empty], false⟩,
  some ⟨.string, 1, 16, [.string .empty], false⟩,
  some ⟨.int .u64, 1, 8, [.int .u64 0], false⟩,
  some ⟨.struct [(0, 9), (1, 12)], 2, 24, [.string .empty, .int .u64 0], false⟩,
  some ⟨.struct [(0, 9), (1, 12)], 2, 24, [.string .empty, .int .u64 0], false⟩,
  some ⟨.ptr 146, 1, 8, [.pointer none], false⟩,
  some ⟨.ptr 149, 1, 8, [.pointer none], false⟩,
  some ⟨.ptr 159, 1, 8, [.pointer none], false⟩,
  some ⟨.struct [(0, 17)], 1, 8, [.pointer none], false⟩,
  some ⟨.struct [(0, 17)], 1, 8, [.pointer none], false⟩,
  some ⟨.iface, 1, 16, [.nilIface], false⟩,
  some ⟨.int .i32, 1, 4, [.int .i32 0], false⟩,
  some ⟨.slice 49, 1, 24, [.slice none 0 0], false⟩,
  some ⟨.struct [(0, 22)], 1, 24, [.slice none 0 0], false⟩,
  some ⟨.struct [(0, 22)], 1, 24, [.slice none 0 0], false⟩,
  some ⟨.func, 1, 8, [.nilFunc], false⟩,
  some ⟨.slice 3, 1, 24, [.slice none 0 0], false⟩,
  some ⟨.func, 1, 8, [.nilFunc], false⟩,
  some ⟨.slice 53, 1, 24, [.slice none 0 0], false⟩,
  some ⟨.struct [(0, 28)], 1, 24, [.slice none 0 0], false⟩,
  some ⟨.struct [(0, 28)], 1, 24, [.slice none 0 0], false⟩,
  some ⟨.func, 1, 8, [.nilFunc], false⟩,
  some ⟨.func, 1, 8, [.nilFunc], false⟩,
  some ⟨.func, 1, 8, [.nilFunc], false⟩,
  some ⟨.func, 1, 8, [.nilFunc], false⟩,
  some ⟨.func, 1, 8, [.nilFunc], false⟩,
  some ⟨.func, 1, 8, [.nilFunc], false⟩,
  some ⟨.func, 1, 8, [.nilFunc], false⟩,
  some ⟨.func, 1, 8, [.nilFunc], false⟩,
  some ⟨.func, 1, 8, [.nilFunc], false⟩,
  some ⟨.func, 1, 8, [.nilFunc], false⟩,
  some ⟨.func, 1, 8, [.nilFunc], false⟩,
  some ⟨.func, 1, 8, [.nilFunc], false⟩,
  some ⟨.func, 1, 8, [.nilFunc], false⟩,
  some ⟨.func, 1, 8, [.nilFunc], false⟩,
  some ⟨.slice 100, 1, 24, [.slice none 0 0], false⟩,
  some ⟨.slice 9, 1, 24, [.slice none 0 0], false⟩,
  some ⟨.slice 105, 1, 24, [.slice none 0 0], false⟩,
  some ⟨.struct [(0, 9), (1, 45), (2, 45), (3, 46), (4, 26), (5, 26), (6, 47)], 7, 160, [.string .empty, .slice none 0 0, .slice none 0 0, .slice none 0 0, .slice none 0 0, .slice none 0 0, .slice none 0 0], false⟩,
  some ⟨.struct [(0, 9), (1, 45), (2, 45), (3, 46), (4, 26), (5, 26), (6, 47)], 7, 160, [.string .empty, .slice none 0 0, .slice none 0 0, .slice none 0 0, .slice none 0 0, .slice none 0 0, .slice none 0 0], false⟩,
  some ⟨.slice 79, 1, 24, [.slice none 0 0], false⟩,
  some ⟨.slice 84, 1, 24, [.slice none 0 0], false⟩,
  some ⟨.struct [(0, 9), (1, 50), (2, 50), (3, 46), (4, 26), (5, 26), (6, 51)], 7, 160, [.string .empty, .slice none 0 0, .slice none 0 0, .slice none 0 0, .slice none 0 0, .slice none 0 0, .slice none 0 0], false⟩,
  some ⟨.struct [(0, 9), (1, 50), (2, 50), (3, 46), (4, 26), (5, 26), (6, 51)], 7, 160, [.string .empty, .slice none 0 0, .slice none 0 0, .slice none 0 0, .slice none 0 0, .slice none 0 0, .slice none 0 0], false⟩,
  some ⟨.func, 1, 8, [.nilFunc], false⟩,
  some ⟨.ptr 71, 1, 8, [.pointer none], false⟩,
  none,
  some ⟨.func, 1, 8, [.nilFunc], false⟩,
  some ⟨.func, 1, 8, [.nilFunc], false⟩,
  some ⟨.func, 1, 8, [.nilFunc], false⟩,
  some ⟨.func, 1, 8, [.nilFunc], false⟩,
  some ⟨.func, 1, 8, [.nilFunc], false⟩,
  some ⟨.func, 1, 8, [.nilFunc], false⟩,
  some ⟨.func, 1, 8, [.nilFunc], false⟩,
  some ⟨.func, 1, 8, [.nilFunc], false⟩,
  some ⟨.func, 1, 8, [.nilFunc], false⟩,
  some ⟨.func, 1, 8, [.nilFunc], false⟩,
  some ⟨.func, 1, 8, [.nilFunc], false⟩,
  some ⟨.func, 1, 8, [.nilFunc], false⟩,
  some ⟨.func, 1, 8, [.nilFunc], false⟩,
  some ⟨.struct [(0, 26), (1, 26)], 2, 48, [.slice none 0 0, .slice none 0 0], false⟩,
  some ⟨.struct [(0, 26), (1, 26)], 2, 48, [.slice none 0 0, .slice none 0 0], false⟩,
  some ⟨.map 9 4, 1, 8, [.map none], false⟩,
  some ⟨.func, 1, 8, [.nilFunc], false⟩,
  some ⟨.map 9 3, 1, 8, [.map none], false⟩,
  none,
  some ⟨.func, 1, 8, [.nilFunc], false⟩,
  some ⟨.slice 50, 1, 24, [.slice none 0 0], false⟩,
  some ⟨.struct [(0, 9), (1, 3)], 2, 24, [.string .empty, .int .i64 0], false⟩,
  some ⟨.struct [(0, 9), (1, 3)], 2, 24, [.string .empty, .int .i64 0], true⟩,
  some ⟨.func, 1, 8, [.nilFunc], false⟩,
  some ⟨.slice 119, 1, 24, [.slice none 0 0], false⟩,
  some ⟨.slice 81, 1, 24, [.slice none 0 0], false⟩,
  some ⟨.struct [(0, 3), (1, 9), (2, 3), (3, 46), (4, 81), (5, 82)], 6, 104, [.int .i64 0, .string .empty, .int .i64 0, .slice none 0 0, .slice none 0 0, .slice none 0 0], false⟩,
  some ⟨.struct [(0, 3), (1, 9), (2, 3), (3, 46), (4, 81), (5, 82)], 6, 104, [.int .i64 0, .string .empty, .int .i64 0, .slice none 0 0, .slice none 0 0, .slice none 0 0], false⟩,
  some ⟨.func, 1, 8, [.nilFunc], false⟩,
  some ⟨.slice 90, 1, 24, [.slice none 0 0], false⟩,
  none,
  some ⟨.func, 1, 8, [.nilFunc], false⟩,
  some ⟨.func, 1, 8, [.nilFunc], false⟩,
  some ⟨.ptr 92, 1, 8, [.pointer none], false⟩,
  some ⟨.struct [(0, 84), (6, 86), (7, 86)], 8, 152, [.int .i64 0, .string .empty, .int .i64 0, .slice none 0 0, .slice none 0 0, .slice none 0 0, .slice none 0 0, .slice none 0 0], false⟩,
  some ⟨.struct [(0, 84), (6, 86), (7, 86)], 8, 152, [.int .i64 0, .string .empty, .int .i64 0, .slice none 0 0, .slice none 0 0, .slice none 0 0, .slice none 0 0, .slice none 0 0], false⟩,
  some ⟨.func, 1, 8, [.nilFunc], false⟩,
  some ⟨.func, 1, 8, [.nilFunc], false⟩,
  some ⟨.func, 1, 8, [.nilFunc], false⟩,
  some ⟨.slice 5, 1, 24, [.slice none 0 0], false⟩,
  some ⟨.func, 1, 8, [.nilFunc], false⟩,
  some ⟨.func, 1, 8, [.nilFunc], false⟩,
  some ⟨.func, 1, 8, [.nilFunc], false⟩,
  some ⟨.struct [(0, 9), (1, 3)], 2, 24, [.string .empty, .int .i64 0], false⟩,
  some ⟨.func, 1, 8, [.nilFunc], false⟩,
  some ⟨.slice 139, 1, 24, [.slice none 0 0], false⟩,
  some ⟨.slice 102, 1, 24, [.slice none 0 0], false⟩,
  some ⟨.struct [(0, 3), (1, 9), (2, 3), (3, 46), (4, 102), (5, 103)], 6, 104, [.int .i64 0, .string .empty, .int .i64 0, .slice none 0 0, .slice none 0 0, .slice none 0 0], false⟩,
  some ⟨.struct [(0, 3), (1, 9), (2, 3), (3, 46), (4, 102), (5, 103)], 6, 104, [.int .i64 0, .string .empty, .int .i64 0, .slice none 0 0, .slice none 0 0, .slice none 0 0], false⟩,
  some ⟨.func, 1, 8, [.nilFunc], false⟩,
  some ⟨.func, 1, 8, [.nilFunc], false⟩,
  some ⟨.func, 1, 8, [.nilFunc], false⟩,
  some ⟨.func, 1, 8, [.nilFunc], false⟩,
  some ⟨.func, 1, 8, [.nilFunc], false⟩,
  none,
  some ⟨.func, 1, 8, [.nilFunc], false⟩,
  some ⟨.func, 1, 8, [.nilFunc], false⟩,
  some ⟨.func, 1, 8, [.nilFunc], false⟩,
  some ⟨.func, 1, 8, [.nilFunc], false⟩,
  some ⟨.func, 1, 8, [.nilFunc], false⟩,
  some ⟨.func, 1, 8, [.nilFunc], false⟩,
  some ⟨.struct [(0, 3), (1, 3), (2, 9)], 3, 32, [.int .i64 0, .int .i64 0, .string .empty], false⟩,
  some ⟨.struct [(0, 3), (1, 3), (2, 9)], 3, 32, [.int .i64 0, .int .i64 0, .string .empty], true⟩,
  some ⟨.func, 1, 8, [.nilFunc], false⟩,
  some ⟨.func, 1, 8, [.nilFunc], false⟩,
  some ⟨.slice 123, 1, 24, [.slice none 0 0], false⟩,
  some ⟨.ptr 125, 1, 8, [.pointer none], false⟩,
  some ⟨.struct [(0, 90), (1, 4)], 2, 16, [.pointer none, .bool false], false⟩,
  some ⟨.struct [(0, 90), (1, 4)], 2, 16, [.pointer none, .bool false], false⟩,
  some ⟨.func, 1, 8, [.nilFunc], false⟩,
  some ⟨.func, 1, 8, [.nilFunc], false⟩,
  some ⟨.func, 1, 8, [.nilFunc], false⟩,
  some ⟨.func, 1, 8, [.nilFunc], false⟩,
  some ⟨.func, 1, 8, [.nilFunc], false⟩,
  some ⟨.func, 1, 8, [.nilFunc], false⟩,
  some ⟨.func, 1, 8, [.nilFunc], false⟩,
  some ⟨.func, 1, 8, [.nilFunc], false⟩,
  some ⟨.func, 1, 8, [.nilFunc], false⟩,
  some ⟨.func, 1, 8, [.nilFunc], false⟩,
  some ⟨.func, 1, 8, [.nilFunc], false⟩,
  some ⟨.func, 1, 8, [.nilFunc], false⟩,
  some ⟨.func, 1, 8, [.nilFunc], false⟩,
  some ⟨.struct [(0, 3), (1, 3), (2, 9)], 3, 32, [.int .i64 0, .int .i64 0, .string .empty], false⟩,
  some ⟨.func, 1, 8, [.nilFunc], false⟩,
  some ⟨.func, 1, 8, [.nilFunc], false⟩,
  some ⟨.func, 1, 8, [.nilFunc], false⟩,
  some ⟨.func, 1, 8, [.nilFunc], false⟩,
  some ⟨.func, 1, 8, [.nilFunc], false⟩,
  some ⟨.struct [(0, 17), (1, 17), (2, 17), (3, 9)], 4, 40, [.pointer none, .pointer none, .pointer none, .string .empty], false⟩,
  some ⟨.struct [(0, 17), (1, 17), (2, 17), (3, 9)], 4, 40, [.pointer none, .pointer none, .pointer none, .string .empty], false⟩,
  none,
  none,
  none,
  some ⟨.func, 1, 8, [.nilFunc], false⟩,
  some ⟨.int .u32, 1, 4, [.int .u32 0], false⟩,
  some ⟨.int .u8, 1, 1, [.int .u8 0], false⟩,
  some ⟨.int .u8, 1, 1, [.int .u8 0], false⟩,
  some ⟨.func, 1, 8, [.nilFunc], false⟩,
  some ⟨.ptr 5, 1, 8, [.pointer none], false⟩,
  some ⟨.int .i32, 1, 4, [.int .i32 0], false⟩,
  some ⟨.int .i32, 1, 4, [.int .i32 0], false⟩,
  some ⟨.struct [(0, 12), (1, 12), (2, 151), (3, 152), (4, 5), (5, 5), (6, 153), (7, 154), (8, 155), (9, 156), (10, 157)], 11, 48, [.int .u64 0, .int .u64 0, .int .u32 0, .int .u8 0, .int .u8 0, .int .u8 0, .int .u8 0, .nilFunc, .pointer none, .int .i32 0, .int .i32 0], false⟩,
  some ⟨.struct [(0, 12), (1, 12), (2, 151), (3, 152), (4, 5), (5, 5), (6, 153), (7, 154), (8, 155), (9, 156), (10, 157)], 11, 48, [.int .u64 0, .int .u64 0, .int .u32 0, .int .u8 0, .int .u8 0, .int .u8 0, .int .u8 0, .nilFunc, .pointer none, .int .i32 0, .int .i32 0], false⟩,
  none]
set_option maxRecDepth 100000 in
theorem tyL_ok : checkAll Go.Proofs.Tryd.prog tyL tyL 0 = true := by kernel_rfl
-- types: 1=func() 2=int64 3=int 4=bool 5=uint8 6=abi.BoundsErrorCode 8=runtime.boundsError 9=string 10=runtime.errorString 11=runtime.plainError 12=uintptr 13=struct_{_msg_string;_addr_uintptr_} 14=runtime.errorAddressString 15=RuntimeError 16=RuntimeError 17=Align 18=struct_{_typ_*abi.Type_} 19=maps.unhashableTypeError 20=interface_{} 21=int32 22=[]laws.Class 23=struct_{_Classes_[]laws.Class_} 24=laws.Machine 25=func(laws.Machine,_int)_int 26=[]int 27=func(impl.Machine,_int)_[]int 28=[]impl.Class 29=struct_{_Classes_[]impl.Class_} 30=impl.Machine 31=func(laws.Machine)_impl.Machine 32=func([]int,_[]int)_bool 33=func(impl.Machine,_impl.Machine)_bool 34=func(impl.Machine,_int)_int 35=func([]int,_int)_int 36=func(laws.Machine,_int)_bool 37=func([]laws.Class,_int)_int 38=func(impl.Machine,_int)_bool 39=func([]laws.Class)_[]impl.Class 40=func(impl.Machine)_bool 41=func(impl.Machine,_int,_[]int)_[]int 42=func([]impl.Class,_[]impl.Class)_bool 43=func([]impl.Class,_int)_int 44=func(laws.Class,_int)_int 45=[]laws.Slot 46=[]string 47=[]laws.Stm 49=laws.Class 50=[]impl.Slot 51=[]impl.Stm 53=impl.Class 54=func(laws.Class)_impl.Class 55=*impl.sizes 57=func(impl.Machine)_(*impl.sizes,_bool) 58=func(impl.Class,_impl.Class)_bool 59=func(int)_string 60=func([]impl.Slot,_int)_int 61=func([]string,_int)_int 62=func([]impl.Stm,_int)_int 63=func([]laws.Slot,_int)_int 64=func([]laws.Stm,_int)_int 65=func(impl.Machine)_[]int 66=func([]laws.Slot)_[]impl.Slot 67=func([]string)_[]string 68=func([]int)_[]int 69=func([]laws.Stm)_[]impl.Stm 70=struct_{_cells_[]int;_bound_[]int_} 71=impl.sizes 72=map[string]bool 73=func(string)_bool 74=map[string]int 76=func(string,_int)_bool 77=[][]impl.Slot 78=struct_{_Name_string;_Type_int_} 79=impl.Slot 80=func(int)_bool 81=[]impl.Item 82=[][]impl.Item 84=impl.Stm 85=func([]impl.Item,_map[string]int,_int)_bool 86=[]*impl.branch 88=func([]impl.Stm)_([]*impl.branch,_bool) 89=func([]*impl.branch)_int 90=*impl.branch 92=impl.branch 93=func([]impl.Slot,_[]impl.Slot)_bool 94=func([]string,_[]string)_bool 95=func([]impl.Stm,_[]impl.Stm)_bool 96=[]uint8 97=func([]impl.Item,_int)_int 98=func([][]impl.Item,_int)_int 99=func(laws.Slot,_int)_int 100=laws.Slot 101=func(laws.Stm,_int)_int 102=[]laws.Item 103=[][]laws.Item 105=laws.Stm 106=func(impl.Class)_[]string 107=func([]string,_string)_int 108=func(int)_int 109=func(impl.Machine,_impl.Class,_impl.Stm)_bool 110=func([]impl.Stm,_int)_bool 112=func([]impl.Stm,_int)_(int,_int) 113=func(impl.Stm,_string)_bool 114=func(impl.Class,_[]impl.Stm,_[]int)_int 115=func(laws.Slot)_impl.Slot 116=func(laws.Stm)_impl.Stm 117=func(uint8)_bool 118=struct_{_Op_int;_Val_int;_Name_string_} 119=impl.Item 120=func(impl.Item)_bool 121=func([]impl.Item)_bool 122=[]*impl.open 123=*impl.open 124=struct_{_b_*impl.branch;_els_bool_} 125=impl.open 126=func(*impl.branch) 127=func(impl.Slot,_impl.Slot)_bool 128=func(impl.Stm,_impl.Stm)_bool 129=func([]laws.Item,_int)_int 130=func([][]laws.Item,_int)_int 131=func(impl.Class,_string)_bool 132=func(impl.Class,_[]impl.Item)_bool 133=func([]string,_string)_bool 134=func([]laws.Item)_[]impl.Item 135=func([][]laws.Item)_[][]impl.Item 136=func([]impl.Item,_[]impl.Item)_bool 137=func([][]impl.Item,_[][]impl.Item)_bool 138=func(laws.Item,_int)_int 139=laws.Item 140=func()_[]string 141=func([]impl.Item,_int)_bool 142=func(laws.Item)_impl.Item 143=func(impl.Item,_impl.Item)_bool 144=func()_string 146=runtime.TypeAssertionError 150=func()_int 151=uint32 152=abi.TFlag 153=abi.Kind 154=func(unsafe.Pointer,_unsafe.Pointer)_bool 155=*uint8 156=abi.NameOff 157=abi.TypeOff 159=abi.Type
end Go.Pm
/- The program of this seat for the abstract machine, with what its package-level variables hold. -/
set_option linter.unusedVariables false
namespace Go.Pm
def kwBytes : List (List UInt8) := [[97, 110, 100], [98, 111, 111, 108], [101, 108, 115, 101], [102, 97, 108, 115, 101], [102, 98, 121], [105, 102], [105, 110, 116], [108, 101, 116], [109, 101, 114, 103, 101], [109, 111, 100], [110, 111, 100, 101], [110, 111, 116], [111, 114], [114, 101, 116, 117, 114, 110, 115], [116, 101, 108], [116, 104, 101, 110], [116, 114, 117, 101], [118, 97, 114], [119, 104, 101, 110], [119, 104, 101, 110, 111, 116], [120, 111, 114]]
def kwS : List ByteArray := kwBytes.map fun l => ⟨l.toArray⟩
def gl (g : Nat) : Option (List D) := if g = 0 then some [.mp .string (wordMap kwS)] else none
noncomputable def X : Cfg := mkCfg Go.Proofs.Tryd.prog gl tyL tyL_ok
theorem X_mixed : X.P.follows .mixedOrders = true := by kernel_rfl
@[simp] theorem X_T (t : TypeId) : X.T t = look tyL t := rfl
@[simp] theorem X_G (g : Nat) : X.G g = gl g := rfl
end Go.Pm
/- The readings of this seat's types, and its listed variables. -/
set_option linter.unusedVariables false
set_option linter.unusedSimpArgs false
namespace Go.Pm
open Go.Proofs
section
variable {H : Type} {en : TypeId × Value → H} {w : World} {base : Nat} {spare : Nat → Bool} {held : Bool}
theorem rdStr : Rd en Tryd.prog w base spare held 9 eStr dStr := rd_map id (fun _ => rfl) (fun _ h => h) (rd_string (by kernel_rfl))
theorem rdStrs : Rd en Tryd.prog w base spare held 46 (fun l : List ByteArray => [.im (l.map eStr)]) (dL dStr) := rd_map id (fun _ => rfl) (fun _ h => h) (rd_slice (sz := 1) (by kernel_rfl) rdStr (by kernel_rfl) (by decide) (fun _ => rfl))
theorem rdInt : Rd en Tryd.prog w base spare held 3 eNum (fun _ => True) := rd_int (by kernel_rfl)
theorem rdItm : Rd en Tryd.prog w base spare held 139 eItm dItm :=
  rd_map (fun p : Int × Int × ByteArray × Unit => (⟨p.1, p.2.1, p.2.2.1⟩ : Itm)) (fun _ => rfl) (fun _ h => h.2.2.1)
    (rd_structG (n := 3) (by kernel_rfl) (by kernel_rfl) (fun _ => rfl) (rdG_cons 1 rdInt (fun _ => rfl) (rdG_cons 1 rdInt (fun _ => rfl) (rdG_cons 1 rdStr (fun _ => rfl) rdG_nil))))
theorem rdItms : Rd en Tryd.prog w base spare held 102 eItms (dL dItm) := rd_map id (fun _ => rfl) (fun _ h => h) (rd_slice (sz := 3) (by kernel_rfl) rdItm (by kernel_rfl) (by decide) (fun _ => rfl))
theorem rdItmss : Rd en Tryd.prog w base spare held 103 (fun l : List (List Itm) => [.im (l.map eItms)]) (dL (dL dItm)) := rd_map id (fun _ => rfl) (fun _ h => h) (rd_slice (sz := 1) (by kernel_rfl) rdItms (by kernel_rfl) (by decide) (fun _ => rfl))
theorem rdNums : Rd en Tryd.prog w base spare held 26 (fun l : List Int => [.im (l.map eNum)]) dNums := rd_map id (fun _ => rfl) (fun _ h => h.1) (rd_slice (sz := 1) (by kernel_rfl) rdInt (by kernel_rfl) (by decide) (fun _ => rfl))
theorem rdSlt : Rd en Tryd.prog w base spare held 100 eSlt dSlt :=
  rd_map (fun p : ByteArray × Int × Unit => (⟨p.1, p.2.1⟩ : Slt)) (fun _ => rfl) (fun _ h => h.1)
    (rd_structG (n := 2) (by kernel_rfl) (by kernel_rfl) (fun _ => rfl) (rdG_cons 1 rdStr (fun _ => rfl) (rdG_cons 1 rdInt (fun _ => rfl) rdG_nil)))
theorem rdSlts : Rd en Tryd.prog w base spare held 45 (fun l : List Slt => [.im (l.map eSlt)]) (dL dSlt) := rd_map id (fun _ => rfl) (fun _ h => h) (rd_slice (sz := 2) (by kernel_rfl) rdSlt (by kernel_rfl) (by decide) (fun _ => rfl))
theorem rdSm : Rd en Tryd.prog w base spare held 105 eSm dSm :=
  rd_map (fun p : Int × ByteArray × Int × List ByteArray × List Itm × List (List Itm) × Unit => (⟨p.1, p.2.1, p.2.2.1, p.2.2.2.1, p.2.2.2.2.1, p.2.2.2.2.2.1⟩ : Sm)) (fun _ => rfl) (fun _ h => ⟨h.2.1, h.2.2.2.1, h.2.2.2.2.1, h.2.2.2.2.2.1⟩)
    (rd_structG (n := 6) (by kernel_rfl) (by kernel_rfl) (fun _ => rfl) (rdG_cons 1 rdInt (fun _ => rfl) (rdG_cons 1 rdStr (fun _ => rfl) (rdG_cons 1 rdInt (fun _ => rfl) (rdG_cons 1 rdStrs (fun _ => rfl) (rdG_cons 1 rdItms (fun _ => rfl) (rdG_cons 1 rdItmss (fun _ => rfl) rdG_nil)))))))
theorem rdSms : Rd en Tryd.prog w base spare held 47 (fun l : List Sm => [.im (l.map eSm)]) (dL dSm) := rd_map id (fun _ => rfl) (fun _ h => h) (rd_slice (sz := 6) (by kernel_rfl) rdSm (by kernel_rfl) (by decide) (fun _ => rfl))
theorem rdCls : Rd en Tryd.prog w base spare held 49 eCls dCls :=
  rd_map (fun p : ByteArray × List Slt × List Slt × List ByteArray × List Int × List Int × List Sm × Unit => (⟨p.1, p.2.1, p.2.2.1, p.2.2.2.1, p.2.2.2.2.1, p.2.2.2.2.2.1, p.2.2.2.2.2.2.1⟩ : Cls)) (fun _ => rfl) (fun _ h => ⟨h.1, h.2.1, h.2.2.1, h.2.2.2.1, h.2.2.2.2.1, h.2.2.2.2.2.1, h.2.2.2.2.2.2.1⟩)
    (rd_structG (n := 7) (by kernel_rfl) (by kernel_rfl) (fun _ => rfl) (rdG_cons 1 rdStr (fun _ => rfl) (rdG_cons 1 rdSlts (fun _ => rfl) (rdG_cons 1 rdSlts (fun _ => rfl) (rdG_cons 1 rdStrs (fun _ => rfl) (rdG_cons 1 rdNums (fun _ => rfl) (rdG_cons 1 rdNums (fun _ => rfl) (rdG_cons 1 rdSms (fun _ => rfl) rdG_nil))))))))
theorem rdClss : Rd en Tryd.prog w base spare held 22 (fun l : List Cls => [.im (l.map eCls)]) (dL dCls) := rd_map id (fun _ => rfl) (fun _ h => h) (rd_slice (sz := 7) (by kernel_rfl) rdCls (by kernel_rfl) (by decide) (fun _ => rfl))
theorem rdMachine : Rd en Tryd.prog w base spare held 24 (fun l : List Cls => [.im (l.map eCls)]) (dL dCls) :=
  rd_map (fun p : List Cls × Unit => p.1) (fun _ => rfl) (fun _ h => h.1)
    (rd_structG (n := 1) (by kernel_rfl) (by kernel_rfl) (fun _ => rfl) (rdG_cons 1 rdClss (fun _ => rfl) rdG_nil))
end
def kwLaid : List (Lit × DataW Unit) := mapEnts YtdjanhhljinokaaDoor.Rows.laid_loop_example_s0043_impl_keywords
theorem kw_lit : litMap kwLaid = wordMap kwS := by kernel_rfl
theorem kw_fit : ((litMap kwLaid).all fun y => keyFit .string y.1) = true := by kernel_rfl
theorem kw_dist : distB ((litMap kwLaid).map (·.1)) = true := by kernel_rfl
theorem glob_ok {W : World} (h : laidMetH Tryd.prog [("loop.example/s0043/impl.keywords", YtdjanhhljinokaaDoor.Rows.laid_loop_example_s0043_impl_keywords)] W) : GRel X (FW W) := by
  rw [MakeChecks.laidMetH_plain _ _ _ (by kernel_rfl)] at h
  obtain ⟨ps, ⟨g0, t0, cs0, f0, p0, q0, hg0, ht0, hv0, hd0, _, _⟩, _, _⟩ := h
  have ht : t0 = 72 := (Option.some.inj ((show (Tryd.prog.globals[0]?).map (·.type) = some 72 by kernel_rfl).symm.trans (by rw [← Option.some.inj ((show Tryd.prog.globalNamed "loop.example/s0043/impl.keywords" = some 0 by kernel_rfl).symm.trans hg0)] at ht0; exact ht0))).symm
  subst ht
  obtain ⟨v, hc, ho, hx⟩ := ent_map (kk := .string) (k := 9) (e := 4) (by kernel_rfl) (.inl (by kernel_rfl)) (.inl (by kernel_rfl)) kw_fit kw_dist (show DataW.trod _ _ _ _ _ _ _ _ _ = some (.map kwLaid, p0) from hd0)
  rw [kw_lit] at hx
  have key := ent_var hg0 (show Tryd.prog.globalNamed "loop.example/s0043/impl.keywords" = some 0 by kernel_rfl) hv0 hc ho hx
  intro g cells hg
  simp only [X_G, gl] at hg
  split at hg
  · rename_i hg'
    subst hg'
    cases hg
    exact key
  · cases hg
end Go.Pm
set_option linter.unusedVariables false
set_option linter.unusedSimpArgs false
namespace Go.Pm
attribute [local irreducible] AR Ok inBlock andThen endQ aoper
set_option maxHeartbeats 1000000
open Go.Proofs
def digitI (c : UInt8) : Bool := decide (48 ≤ (c.toNat : Int)) && decide ((c.toNat : Int) ≤ 57)
def letterI (c : UInt8) : Bool := decide (97 ≤ (c.toNat : Int)) && decide ((c.toNat : Int) ≤ 122) || decide (65 ≤ (c.toNat : Int)) && decide ((c.toNat : Int) ≤ 90)
theorem digit_ok (c : UInt8) : PFun X 66 [.d (.s (.int .u8 c.toNat))] (vb (digitI c)) := by
  refine pfun_of Tryd.func66 rfl (by decide) Tryd.ntmps66 Tryd.results66 (by simp) rfl rfl ?_
  repeat' first
    | refine Z1 ?_ | refine Z2 ?_ | refine Z5 ?_ | refine Z7 ?_ | refine Z8 ?_ | refine Za (fun hc => ?_) (fun hc => ?_) | refine Zh ?_ | refine Zi ?_ | refine Zl ?_ | refine Zm ?_ | refine Zo ?_ | refine ok_ret ?_ | refine Zt ?_
  all_goals simp [digitI, *]
theorem letter_ok (c : UInt8) : PFun X 67 [.d (.s (.int .u8 c.toNat))] (vb (letterI c)) := by
  refine pfun_of Tryd.func67 rfl (by decide) Tryd.ntmps67 Tryd.results67 (by simp) rfl rfl ?_
  repeat' first
    | refine Z1 ?_ | refine Z2 ?_ | refine Z5 ?_ | refine Z6 ?_ | refine Z7 ?_ | refine Z8 ?_ | refine Z9 ?_ | refine Za (fun hc => ?_) (fun hc => ?_) | refine Zb (fun hc => ?_) (fun hc => ?_) | refine Zh ?_ | refine Zi ?_ | refine Zl ?_
    | refine Zm ?_ | refine Zo ?_ | refine ok_ret ?_ | refine Zt ?_
  all_goals simp [letterI, *]
def arityI (op : Int) : Int := if op = 1 ∨ op = 2 ∨ op = 3 ∨ op = 25 then 0 else if op = 4 ∨ op = 5 ∨ op = 21 ∨ op = 22 ∨ op = 23 then 1 else if op = 20 then 3 else 2
theorem arity_ok (op : Int) : PFun X 82 [vi op] (vi (arityI op)) := by
  refine pfun_of Tryd.func82 rfl (by decide) Tryd.ntmps82 Tryd.results82 (by simp) rfl rfl ?_
  repeat' first
    | refine Z1 ?_ | refine Z2 ?_ | refine Z5 ?_ | refine Z7 ?_ | refine Z9 ?_ | refine Zb (fun hc => ?_) (fun hc => ?_) | refine Zh ?_ | refine Zi ?_ | refine Zl ?_ | refine Zm ?_ | refine Zo ?_ | refine ok_seq ?_ | refine Zp ?_
    | refine Zr (fun hc => ?_) (fun hc => ?_) | refine ok_block ?_ | refine ok_skip ?_ | refine ok_ret ?_ | refine x_normal_then ?_ | refine x_ret_then ?_ | refine x_ret_block ?_ | refine x_normal_block ?_ | refine Zt ?_
  all_goals simp only [decide_eq_true_eq, decide_eq_false_iff_not, Bool.not_eq_true, Bool.not_eq_false, Bool.not_eq_eq_eq_not, Bool.not_true, Bool.not_false] at *
  all_goals simp [arityI, *]
end Go.Pm
set_option linter.unusedVariables false
set_option linter.unusedSimpArgs false
namespace Go.Pm
attribute [local irreducible] AR Ok inBlock andThen endQ aoper
set_option maxHeartbeats 1000000
open Go.Proofs
theorem arityI_range (n : Int) : 0 ≤ arityI n ∧ arityI n ≤ 3 := by unfold arityI; split <;> (try split) <;> (try split) <;> omega
def postI : Int → List Itm → Bool
  | h, [] => decide (h = 1)
  | h, x :: l => if h < arityI x.op then false else postI (h + (1 - arityI x.op)) l
theorem postfix_ok (l : List Itm) (hl : l.length < 1099511627776) : PFun X 69 [.d (.im (l.map eItm))] (vb (postI 0 l)) := by
  refine pfun_of Tryd.func69 rfl (by decide) Tryd.ntmps69 Tryd.results69 (by simp) rfl rfl ?_
  repeat' first
    | refine Z1 ?_ | refine Z2 ?_ | refine Z3 ?_ | refine Z4 ?_ | refine Z5 ?_ | refine Z6 ?_ | refine Z7 ?_ | refine Z8 ?_ | refine Z9 ?_ | refine Za (fun hc => ?_) (fun hc => ?_) | refine Zb (fun hc => ?_) (fun hc => ?_) | refine Zd ?_
    | refine Ze ?_ | refine Zf ?_ | refine Zg ?_ | refine Zh ?_ | refine Zi ?_ | refine Zj ?_ | refine Zk ?_ | refine Zl ?_ | refine Zm ?_ | refine Zn (fun hc => ?_) (fun hc => ?_) | refine Zo ?_ | refine ok_seq ?_ | refine ok_reg ?_
    | refine Zp ?_ | refine Zq ?_ | refine Zr (fun hc => ?_) (fun hc => ?_) | refine ok_block ?_ | refine ok_exit ?_ | refine ok_skip ?_ | refine ok_ret ?_ | refine x_normal_then ?_ | refine x_exit_here ?_ | refine Zs ?_ | refine Zv ?_
    | refine x_ret_then ?_ | refine x_ret_block ?_ | refine x_normal_block ?_ | refine Zt ?_ | refine Zu ?_
  refine ok_for (ι := Nat × Int) (fun x => envL [(2, vb false), (3, vi x.2), (7, .d (.im (l.map eItm))), (8, vi l.length), (9, vi x.1)]) (fun x => stL []) (fun x => 0 ≤ x.2 ∧ x.2 ≤ x.1 ∧ x.1 ≤ l.length ∧ postI x.2 (l.drop x.1) = postI 0 l) (fun x => l.length - x.1) (0, 0) (by simp) (weak_mk rfl ⟨.refl _, .refl _, .refl _, .refl _, .refl _, trivial⟩ trivial) (fun _ => Nat.le_refl 0) ?_
  rintro ⟨k, h⟩ ⟨i1, i2, i3, i4⟩
  simp only at i1 i2 i3 i4
  rcases hx : l[k]? with _ | x
  · have hle := none_le hx
    rw [drop_none hx] at i4
    repeat' first
      | refine Z1 ?_ | refine Z2 ?_ | refine Z3 ?_ | refine Z4 ?_ | refine Z5 ?_ | refine Z6 ?_ | refine Z7 ?_ | refine Z8 ?_ | refine Z9 ?_ | refine Za (fun hc => ?_) (fun hc => ?_) | refine Zb (fun hc => ?_) (fun hc => ?_) | refine Zd ?_
      | refine Ze ?_ | refine Zf ?_ | refine Zg ?_ | refine Zh ?_ | refine Zi ?_ | refine Zj ?_ | refine Zk ?_ | refine Zl ?_ | refine Zm ?_ | refine Zn (fun hc => ?_) (fun hc => ?_) | refine Zo ?_ | refine ok_seq ?_ | refine ok_reg ?_
      | refine Zp ?_ | refine Zq ?_ | refine Zr (fun hc => ?_) (fun hc => ?_) | refine ok_block ?_ | refine ok_exit ?_ | refine ok_skip ?_ | refine ok_ret ?_ | refine x_normal_then ?_ | refine x_exit_here ?_ | refine Zs ?_ | refine Zv ?_
      | refine x_ret_then ?_ | refine x_ret_block ?_ | refine x_normal_block ?_ | refine Zt ?_ | refine Zu ?_
    all_goals simp only [decide_eq_true_eq, decide_eq_false_iff_not, Bool.not_eq_true, Bool.not_eq_false, Bool.not_eq_eq_eq_not, Bool.not_true, Bool.not_false] at *
    · omega
    · exact ret_vb i4
  · have hr := arityI_range x.op
    obtain ⟨hd, hlt⟩ := drop_some hx
    rw [hd] at i4
    simp only [postI] at i4
    repeat' first
      | refine Z1 ?_ | refine Z2 ?_ | refine Z3 ?_ | refine Z4 ?_ | refine Z5 ?_ | refine Z6 ?_ | refine Z7 ?_ | refine Z8 ?_ | refine Z9 ?_ | refine Za (fun hc => ?_) (fun hc => ?_) | refine Zb (fun hc => ?_) (fun hc => ?_)
      | refine Zc (arity_ok _) ?_ | refine Zd ?_ | refine Ze ?_ | refine Zf ?_ | refine Zg ?_ | refine Zh ?_ | refine Zi ?_ | refine Zj ?_ | refine Zk ?_ | refine Zl ?_ | refine Zm ?_ | refine Zn (fun hc => ?_) (fun hc => ?_) | refine Zo ?_
      | refine ok_seq ?_ | refine ok_reg ?_ | refine Zp ?_ | refine Zq ?_ | refine Zr (fun hc => ?_) (fun hc => ?_) | refine ok_block ?_ | refine ok_exit ?_ | refine ok_skip ?_ | refine ok_ret ?_ | refine x_normal_then ?_
      | refine x_exit_here ?_ | refine Zs ?_ | refine Zv ?_ | refine x_ret_then ?_ | refine x_ret_block ?_ | refine x_normal_block ?_ | refine Zt ?_ | refine Zu ?_
    all_goals simp only [decide_eq_true_eq, decide_eq_false_iff_not, Bool.not_eq_true, Bool.not_eq_false, Bool.not_eq_eq_eq_not, Bool.not_true, Bool.not_false] at *
    · exact ret_vb (by rw [← i4, if_pos (by assumption)])
    · rw [if_neg (by assumption)] at i4
      exact ⟨(k + 1, h + (1 - arityI x.op)), ⟨by simp only; omega, by simp only; omega, by simp only; omega, i4⟩, by (try simp only); omega, low_mk (Nat.zero_le _) ⟨⟨rfl, rfl⟩, ⟨rfl, rfl⟩, ⟨rfl, rfl⟩, ⟨rfl, rfl⟩, ⟨rfl, rfl⟩, trivial⟩ trivial⟩
    · omega
end Go.Pm
set_option linter.unusedVariables false
set_option linter.unusedSimpArgs false
namespace Go.Pm
attribute [local irreducible] AR Ok inBlock andThen endQ aoper
set_option maxHeartbeats 1000000
open Go.Proofs
def tailI (c : UInt8) : Bool := letterI c || digitI c || decide ((c.toNat : Int) = 95)
def nameI (s : ByteArray) : Bool :=
  match bs s with
  | [] => false
  | c :: r =>
    if 40 < (s.size : Int) then false
    else if (c.toNat : Int) = 36 then
      match r with
      | [] => false
      | d :: _ => if 10 < (s.size : Int) ∨ (d.toNat : Int) = 48 then false else r.all digitI
    else letterI c && !hasWord kwS s && r.all tailI
theorem ne_empty {s : ByteArray} {c : UInt8} {r : List UInt8} (h : bs s = c :: r) : decide (s = ⟨#[]⟩) = false := by
  rw [decide_eq_false_iff_not]
  intro e
  rw [e] at h
  cases h
theorem name_ok (s : ByteArray) : PFun X 41 [vs s] (vb (nameI s)) := by
  have hsz := bs_length s
  refine pfun_of Tryd.func41 rfl (by decide) Tryd.ntmps41 Tryd.results41 (by simp) rfl rfl ?_
  rcases hb : bs s with _ | ⟨c, r⟩
  · have e : decide (s = ⟨#[]⟩) = true := decide_eq_true (bs_inj hb)
    repeat' first
      | refine Z1 ?_ | refine Z2 ?_ | refine Z5 ?_ | refine Z9 ?_ | refine Zl ?_ | refine Zo ?_ | refine ok_seq ?_ | refine Zp ?_ | refine ok_ret ?_ | refine x_ret_then ?_ | refine Zt ?_
    exact ret_vb (by simp [nameI, hb])
  · have h0 : (bs s)[0]? = some c := by rw [hb]; rfl
    have e := ne_empty hb
    rw [hb] at hsz
    simp only [List.length_cons] at hsz
    by_cases hbig : 40 < (s.size : Int)
    · have e2 : decide (40 < (s.size : Int)) = true := decide_eq_true hbig
      repeat' first
        | refine Z1 ?_ | refine Z2 ?_ | refine Z5 ?_ | refine Z7 ?_ | refine Zh ?_ | refine Zi ?_ | refine Zm ?_ | refine Zo ?_ | refine ok_seq ?_ | refine Zp ?_ | refine ok_ret ?_ | refine x_ret_then ?_ | refine Zt ?_
      exact ret_vb (by simp [nameI, hb, hbig])
    have e2 : decide (40 < (s.size : Int)) = false := decide_eq_false hbig
    by_cases h36 : (c.toNat : Int) = 36
    · have e3 : decide ((c.toNat : Int) = 36) = true := decide_eq_true h36
      rcases r with _ | ⟨d, r⟩
      · have e4 : decide ((s.size : Int) < 2) = true := decide_eq_true (by simp at hsz; omega)
        repeat' first
          | refine Z1 ?_ | refine Z2 ?_ | refine Z5 ?_ | refine Z7 ?_ | refine Z9 ?_ | refine op_b rfl rfl h0 rfl rfl rfl ?_ | refine Zh ?_ | refine Zi ?_ | refine Zl ?_ | refine Zm ?_ | refine Zo ?_ | refine ok_seq ?_ | refine Zp ?_
          | refine Zq ?_ | refine ok_skip ?_ | refine ok_ret ?_ | refine x_normal_then ?_ | refine x_ret_then ?_ | refine Zt ?_
        exact ret_vb (by simp [nameI, hb, hbig, h36])
      · have h1 : (bs s)[1]? = some d := by rw [hb]; rfl
        have e4 : decide ((s.size : Int) < 2) = false := decide_eq_false (by simp at hsz; omega)
        by_cases h10 : 10 < (s.size : Int) ∨ (d.toNat : Int) = 48
        · have hn : nameI s = false := by simp [nameI, hb, hbig, h36, h10]
          repeat' first
            | refine Z1 ?_ | refine Z2 ?_ | refine Z5 ?_ | refine Z7 ?_ | refine Z9 ?_ | refine Zb (fun hc => ?_) (fun hc => ?_) | refine op_b rfl rfl h0 rfl rfl rfl ?_ | refine op_b rfl rfl h1 rfl rfl rfl ?_ | refine Zh ?_ | refine Zi ?_
            | refine Zl ?_ | refine Zm ?_ | refine Zo ?_ | refine ok_seq ?_ | refine Zp ?_ | refine Zq ?_ | refine Zr (fun hc => ?_) (fun hc => ?_) | refine ok_block ?_ | refine ok_skip ?_ | refine ok_ret ?_ | refine x_normal_then ?_
            | refine x_ret_then ?_ | refine Zt ?_
          all_goals simp only [decide_eq_true_eq, decide_eq_false_iff_not, Bool.not_eq_true, Bool.not_eq_false, Bool.not_eq_eq_eq_not, Bool.not_true, Bool.not_false] at *
          · exact ret_vb hn.symm
          · omega
          · exact ret_vb hn.symm
        · have e5 : decide (10 < (s.size : Int)) = false := decide_eq_false (by omega)
          have e6 : decide ((d.toNat : Int) = 48) = false := decide_eq_false (by omega)
          have hn : nameI s = (d :: r).all digitI := by simp only [nameI, hb, hbig, h36, h10, if_false, if_true]
          repeat' first
            | refine Z1 ?_ | refine Z2 ?_ | refine Z5 ?_ | refine Z7 ?_ | refine op_b rfl rfl h0 rfl rfl rfl ?_ | refine op_b rfl rfl h1 rfl rfl rfl ?_ | refine Zh ?_ | refine Zi ?_ | refine Zm ?_ | refine Zo ?_ | refine ok_seq ?_
            | refine Zp ?_ | refine Zq ?_ | refine ok_block ?_ | refine ok_skip ?_ | refine x_normal_then ?_
          refine ok_for (ι := Nat) (fun x => envL [(0, vs s), (2, vb false), (3, vi x)]) (fun x => stL []) (fun x => 1 ≤ x ∧ x ≤ s.size ∧ ((bs s).drop x).all digitI = nameI s) (fun x => s.size - x) 1 (⟨by omega, by omega, by rw [hn, hb]; simp⟩) (weak_mk rfl ⟨.refl _, .refl _, .refl _, trivial⟩ trivial) (fun _ => Nat.le_refl 0) ?_
          rintro k ⟨i1, i2, i3⟩
          rcases hx : (bs s)[k]? with _ | x
          · have hle := none_le hx
            rw [bs_length] at hle
            have ek : decide ((k : Int) < (s.size : Int)) = false := decide_eq_false (by omega)
            rw [drop_none hx] at i3
            repeat' first
              | refine Z1 ?_ | refine Z2 ?_ | refine Zo ?_ | refine ok_seq ?_ | refine Zq ?_ | refine ok_exit ?_ | refine ok_ret ?_ | refine x_normal_then ?_ | refine x_exit_here ?_ | refine Zv ?_ | refine x_ret_then ?_ | refine Zt ?_
            exact ret_vb i3
          · obtain ⟨hd, hlt⟩ := drop_some hx
            rw [bs_length] at hlt
            have ek : decide ((k : Int) < (s.size : Int)) = true := decide_eq_true (by omega)
            rw [hd, List.all_cons] at i3
            cases hdx : digitI x with
            | false =>
              have ex : (!digitI x) = true := by rw [hdx]; rfl
              repeat' first
                | refine Z1 ?_ | refine Z2 ?_ | refine Z5 ?_ | refine op_b rfl rfl hx rfl rfl rfl ?_ | refine Zc (digit_ok _) ?_ | refine Zo ?_ | refine ok_seq ?_ | refine Zp ?_ | refine ok_block ?_ | refine ok_skip ?_ | refine ok_ret ?_
                | refine x_normal_then ?_ | refine x_ret_then ?_ | refine x_ret_block ?_ | refine Zt ?_
              exact ret_vb (by rw [← i3, hdx]; rfl)
            | true =>
              have ex : (!digitI x) = false := by rw [hdx]; rfl
              repeat' first
                | refine Z1 ?_ | refine Z2 ?_ | refine Z5 ?_ | refine op_b rfl rfl hx rfl rfl rfl ?_ | refine Zc (digit_ok _) ?_ | refine Zf ?_ | refine Zo ?_ | refine ok_seq ?_ | refine ok_reg ?_ | refine Zp ?_ | refine Zq ?_
                | refine ok_block ?_ | refine ok_skip ?_ | refine x_normal_then ?_ | refine x_normal_block ?_
              rw [hdx, Bool.true_and] at i3
              exact ⟨k + 1, ⟨by omega, by omega, i3⟩, by (try simp only); omega, low_mk (Nat.zero_le _) ⟨⟨rfl, rfl⟩, ⟨rfl, rfl⟩, ⟨rfl, rfl⟩, trivial⟩ trivial⟩
    · have e3 : decide ((c.toNat : Int) = 36) = false := decide_eq_false h36
      cases hl : letterI c with
      | false =>
        have el : (!letterI c) = true := by rw [hl]; rfl
        repeat' first
          | refine Z1 ?_ | refine Z2 ?_ | refine Z5 ?_ | refine Z7 ?_ | refine Z9 ?_ | refine op_b rfl rfl h0 rfl rfl rfl ?_ | refine Zc (letter_ok _) ?_ | refine Zh ?_ | refine Zi ?_ | refine Zl ?_ | refine Zm ?_ | refine Zo ?_
          | refine ok_seq ?_ | refine Zp ?_ | refine Zq ?_ | refine ok_skip ?_ | refine ok_ret ?_ | refine x_normal_then ?_ | refine x_ret_then ?_ | refine Zt ?_
        exact ret_vb (by simp [nameI, hb, hbig, h36, hl])
      | true =>
        have el : (!letterI c) = false := by rw [hl]; rfl
        cases hw : hasWord kwS s with
        | true =>
          repeat' first
            | refine Z1 ?_ | refine Z2 ?_ | refine Z5 ?_ | refine Z7 ?_ | refine op_b rfl rfl h0 rfl rfl rfl ?_ | refine Zc (letter_ok _) ?_ | refine op_word rfl rfl rfl rfl rfl rfl rfl rfl ?_ | refine Zh ?_ | refine Zi ?_ | refine Zm ?_
            | refine Zo ?_ | refine ok_seq ?_ | refine Zp ?_ | refine Zq ?_ | refine ok_skip ?_ | refine ok_ret ?_ | refine x_normal_then ?_ | refine x_ret_then ?_ | refine Zt ?_
          exact ret_vb (by simp [nameI, hb, hbig, h36, hl, hw])
        | false =>
          have hn : nameI s = r.all tailI := by simp [nameI, hb, hbig, h36, hl, hw]
          repeat' first
            | refine Z1 ?_ | refine Z2 ?_ | refine Z5 ?_ | refine Z7 ?_ | refine op_b rfl rfl h0 rfl rfl rfl ?_ | refine Zc (letter_ok _) ?_ | refine op_word rfl rfl rfl rfl rfl rfl rfl rfl ?_ | refine Zh ?_ | refine Zi ?_ | refine Zm ?_
            | refine Zo ?_ | refine ok_seq ?_ | refine Zq ?_ | refine ok_block ?_ | refine ok_skip ?_ | refine x_normal_then ?_
          refine ok_for (ι := Nat) (fun x => envL [(0, vs s), (2, vb false), (4, vi x)]) (fun x => stL []) (fun x => 1 ≤ x ∧ x ≤ s.size ∧ ((bs s).drop x).all tailI = nameI s) (fun x => s.size - x) 1 (⟨by omega, by omega, by rw [hn, hb]; simp⟩) (weak_mk rfl ⟨.refl _, .refl _, .refl _, trivial⟩ trivial) (fun _ => Nat.le_refl 0) ?_
          rintro k ⟨i1, i2, i3⟩
          rcases hx : (bs s)[k]? with _ | x
          · have hle := none_le hx
            rw [bs_length] at hle
            have ek : decide ((k : Int) < (s.size : Int)) = false := decide_eq_false (by omega)
            rw [drop_none hx] at i3
            repeat' first
              | refine Z1 ?_ | refine Z2 ?_ | refine Zo ?_ | refine ok_seq ?_ | refine Zq ?_ | refine ok_exit ?_ | refine ok_ret ?_ | refine x_normal_then ?_ | refine x_exit_here ?_ | refine Zv ?_ | refine Zt ?_
            exact ret_vb i3
          · obtain ⟨hd, hlt⟩ := drop_some hx
            rw [bs_length] at hlt
            have ek : decide ((k : Int) < (s.size : Int)) = true := decide_eq_true (by omega)
            rw [hd, List.all_cons] at i3
            cases htx : tailI x with
            | false =>
              have htx' := htx
              simp only [tailI, Bool.or_eq_false_iff, decide_eq_false_iff_not] at htx'
              have ex : (!letterI x) = true := by rw [htx'.1.1]; rfl
              have ex2 : (!digitI x) = true := by rw [htx'.1.2]; rfl
              have ex3 : decide ((x.toNat : Int) ≠ 95) = true := decide_eq_true htx'.2
              repeat' first
                | refine Z1 ?_ | refine Z2 ?_ | refine Z5 ?_ | refine Z7 ?_ | refine op_b rfl rfl hx rfl rfl rfl ?_ | refine Zc (digit_ok _) ?_ | refine Zc (letter_ok _) ?_ | refine Zh ?_ | refine Zi ?_ | refine Zl ?_ | refine Zo ?_
                | refine ok_seq ?_ | refine Zp ?_ | refine ok_block ?_ | refine ok_skip ?_ | refine ok_ret ?_ | refine x_normal_then ?_ | refine x_ret_then ?_ | refine x_ret_block ?_ | refine Zt ?_
              exact ret_vb (by rw [← i3, htx]; rfl)
            | true =>
              rw [htx, Bool.true_and] at i3
              repeat' first
                | refine Z1 ?_ | refine Z2 ?_ | refine Z5 ?_ | refine Z7 ?_ | refine Z8 ?_ | refine Za (fun hc => ?_) (fun hc => ?_) | refine op_b rfl rfl hx rfl rfl rfl ?_ | refine Zc (digit_ok _) ?_ | refine Zc (letter_ok _) ?_
                | refine Zf ?_ | refine Zh ?_ | refine Zi ?_ | refine Zl ?_ | refine Zm ?_ | refine Zo ?_ | refine ok_seq ?_ | refine ok_reg ?_ | refine Zp ?_ | refine Zq ?_ | refine Zr (fun hc => ?_) (fun hc => ?_) | refine ok_block ?_
                | refine ok_skip ?_ | refine ok_ret ?_ | refine x_normal_then ?_ | refine x_ret_then ?_ | refine x_ret_block ?_ | refine x_normal_block ?_ | refine Zt ?_
              all_goals first
                | (exact ⟨k + 1, ⟨by omega, by omega, i3⟩, by (try simp only); omega, low_mk (Nat.zero_le _) ⟨⟨rfl, rfl⟩, ⟨rfl, rfl⟩, ⟨rfl, rfl⟩, trivial⟩ trivial⟩)
                | (exfalso; simp_all [tailI])
end Go.Pm
set_option linter.unusedVariables false
set_option linter.unusedSimpArgs false
namespace Go.Pm
attribute [local irreducible] AR Ok inBlock andThen endQ aoper
set_option maxHeartbeats 1000000
open Go.Proofs
def nmI (x : Itm) : Bool := if x.op = 3 ∨ x.op = 23 ∨ x.op = 24 then nameI x.name else decide (x.name = ⟨#[]⟩)
def itemI (x : Itm) : Bool :=
  if x.op < 1 ∨ 24 < x.op then false
  else if x.op = 1 then (if x.val < 0 ∨ 2147483647 < x.val then false else nmI x)
  else if x.op = 2 ∨ x.op = 22 ∨ x.op = 23 then (if x.val ≠ 0 ∧ x.val ≠ 1 then false else nmI x)
  else if x.op = 21 then (if x.val < -2147483647 ∨ 2147483647 < x.val then false else nmI x)
  else if x.val ≠ 0 then false else nmI x
theorem item_ok (x : Itm) : PFun X 68 [.agg ((eItm x).map .d)] (vb (itemI x)) := by
  refine pfun_of Tryd.func68 rfl (by decide) Tryd.ntmps68 Tryd.results68 (by simp) rfl rfl ?_
  repeat' first
    | refine Z1 ?_ | refine Z2 ?_ | refine Z5 ?_ | refine Z7 ?_ | refine Z8 ?_ | refine Z9 ?_ | refine Za (fun hc => ?_) (fun hc => ?_) | refine Zb (fun hc => ?_) (fun hc => ?_) | refine Zc (name_ok _) ?_ | refine Zh ?_ | refine Zi ?_
    | refine Zl ?_ | refine Zm ?_ | refine Zo ?_ | refine ok_seq ?_ | refine ok_reg ?_ | refine Zp ?_ | refine Zq ?_ | refine Zr (fun hc => ?_) (fun hc => ?_) | refine ok_block ?_ | refine ok_skip ?_ | refine ok_ret ?_
    | refine x_normal_then ?_ | refine x_ret_then ?_ | refine x_ret_block ?_ | refine x_normal_block ?_ | refine Zt ?_
  all_goals simp only [decide_eq_true_eq, decide_eq_false_iff_not, Bool.not_eq_true, Bool.not_eq_false, Bool.not_eq_eq_eq_not, Bool.not_true, Bool.not_false] at *
  all_goals (refine ret_vb ?_; unfold itemI nmI; grind)
end Go.Pm
/- Machines: values and codes, as the program checks them. -/
set_option linter.unusedVariables false
set_option linter.unusedSimpArgs false
namespace Go.Pm
attribute [local irreducible] AR Ok inBlock andThen endQ aoper
set_option maxHeartbeats 1000000
open Go.Proofs
def valI (v : Int) : Bool := decide (-2147483648 ≤ v) && decide (v ≤ 2147483647)
theorem val_ok (v : Int) : PFun X 43 [vi v] (vb (valI v)) := by
  refine pfun_of Tryd.func43 rfl (by decide) Tryd.ntmps43 Tryd.results43 (by simp) rfl rfl ?_
  repeat' first
    | refine Z1 ?_ | refine Z2 ?_ | refine Z5 ?_ | refine Z7 ?_ | refine Z8 ?_ | refine Za (fun hc => ?_) (fun hc => ?_) | refine Zh ?_ | refine Zi ?_ | refine Zl ?_ | refine Zm ?_ | refine Zo ?_ | refine ok_ret ?_ | refine Zt ?_
  all_goals simp [valI, *]
def ciI (F : List (ByteArray × Int)) (n : Int) (x : Itm) : Bool :=
  if x.op = 25 then (if x.val < 0 ∨ n ≤ x.val ∨ x.name ≠ ⟨#[]⟩ then false else true)
  else if x.op < 1 ∨ 20 < x.op ∨ itemI x = false then false
  else if x.op = 3 then (sfind F x.name).isSome else true
def codeI (F : List (ByteArray × Int)) (n : Int) (l : List Itm) : Bool := if (l.length : Int) < 1 ∨ 6000 < (l.length : Int) then false else l.all (ciI F n) && postI 0 l
theorem ro_1 {σ' : St} {o : AO} (h : σ'.obj 0 = some o) : ∀ j, j < [some o].length → σ'.obj j = (stL [some o]).obj j := by
  intro j hj
  have : j = 0 := by simp at hj; omega
  subst this; exact h
theorem code_s (F : List (ByteArray × Int)) (n : Int) (l : List Itm) (hl : l.length ≤ 1048576) : AFun X 45 [.d (.im (l.map eItm)), .mp 0, vi n] (stL [some (.map .string (smap vi F))]) fun E σ' => E = .ret (vb (codeI F n l)) ∧ ∀ j, j < [some (AO.map .string (smap vi F))].length → σ'.obj j = (stL [some (.map .string (smap vi F))]).obj j := by
  refine afun_of Tryd.func45 rfl (by decide) Tryd.ntmps45 Tryd.results45 (by simp) ?_
  by_cases hbig : (l.length : Int) < 1 ∨ 6000 < (l.length : Int)
  · have hn : codeI F n l = false := by simp [codeI, hbig]
    by_cases h1 : (l.length : Int) < 1
    · have e1 : decide ((l.length : Int) < 1) = true := decide_eq_true h1
      repeat' first
        | refine Z1 ?_ | refine Z2 ?_ | refine Z5 ?_ | refine Z9 ?_ | refine Zd ?_ | refine Zl ?_ | refine Zo ?_ | refine ok_seq ?_ | refine Zp ?_ | refine ok_ret ?_ | refine x_ret_then ?_ | refine Zt ?_
      exact ⟨ret_vb hn.symm, ro_1 rfl⟩
    · have e1 : decide ((l.length : Int) < 1) = false := decide_eq_false h1
      have e2 : decide (6000 < (l.length : Int)) = true := decide_eq_true (by omega)
      repeat' first
        | refine Z1 ?_ | refine Z2 ?_ | refine Z5 ?_ | refine Z7 ?_ | refine Zd ?_ | refine Zh ?_ | refine Zi ?_ | refine Zm ?_ | refine Zo ?_ | refine ok_seq ?_ | refine Zp ?_ | refine ok_ret ?_ | refine x_ret_then ?_ | refine Zt ?_
      exact ⟨ret_vb hn.symm, ro_1 rfl⟩
  have e1 : decide ((l.length : Int) < 1) = false := decide_eq_false (by omega)
  have e2 : decide (6000 < (l.length : Int)) = false := decide_eq_false (by omega)
  have hn : codeI F n l = (l.all (ciI F n) && postI 0 l) := by simp only [codeI, hbig, if_false]
  repeat' first
    | refine Z1 ?_ | refine Z2 ?_ | refine Z5 ?_ | refine Z7 ?_ | refine Zd ?_ | refine Zh ?_ | refine Zi ?_ | refine Zm ?_ | refine Zo ?_ | refine ok_seq ?_ | refine Zq ?_ | refine ok_block ?_ | refine ok_skip ?_ | refine x_normal_then ?_
  refine ok_for (ι := Nat) (fun x => envL [(0, .d (.im (l.map eItm))), (1, .mp 0), (2, vi n), (19, .d (.im (l.map eItm))), (20, vi l.length), (21, vi x)]) (fun x => stL [some (.map .string (smap vi F))]) (fun x => x ≤ l.length ∧ ((l.drop x).all (ciI F n) && postI 0 l) = codeI F n l) (fun x => l.length - x) 0 (⟨Nat.zero_le _, by rw [hn]; simp⟩) (weak_mk rfl ⟨.refl _, .refl _, .refl _, .refl _, .refl _, .refl _, trivial⟩ ⟨⟨rfl, _, rfl, rfl, rfl⟩, trivial⟩) (fun _ => Nat.le_refl 1) ?_
  rintro k ⟨i1, i2⟩
  rcases hx : l[k]? with _ | x
  · have hle := none_le hx
    have ek : decide ((k : Int) < (l.length : Int)) = false := decide_eq_false (by omega)
    rw [drop_none hx] at i2
    repeat' first
      | refine Z1 ?_ | refine Z2 ?_ | refine Z5 ?_ | refine Zc (postfix_ok l (by omega)) ?_ | refine Zo ?_ | refine ok_seq ?_ | refine Zq ?_ | refine ok_exit ?_ | refine ok_ret ?_ | refine x_normal_then ?_ | refine x_exit_here ?_
      | refine Zv ?_ | refine Zt ?_
    exact ⟨ret_vb i2, ro_1 rfl⟩
  obtain ⟨hd, hlt⟩ := drop_some hx
  have ek : decide ((k : Int) < (l.length : Int)) = true := decide_eq_true (by omega)
  rw [hd, List.all_cons] at i2
  have fin : ciI F n x = false → false = codeI F n l := fun h => by rw [← i2, h]; rfl
  have go : ciI F n x = true → ((l.drop (k + 1)).all (ciI F n) && postI 0 l) = codeI F n l := fun h => by rw [← i2, h]; rfl
  by_cases o25 : x.op = 25
  · have d1 : decide (x.op = 25) = true := decide_eq_true o25
    by_cases hb : x.val < 0 ∨ n ≤ x.val ∨ x.name ≠ ⟨#[]⟩
    · have hf := fin (by simp only [ciI, o25, if_true, hb])
      by_cases h1 : x.val < 0
      · have d2 : decide (x.val < 0) = true := decide_eq_true h1
        repeat' first
          | refine Z1 ?_ | refine Z2 ?_ | refine Z5 ?_ | refine Z9 ?_ | refine Ze ?_ | refine Zl ?_ | refine Zo ?_ | refine ok_seq ?_ | refine Zp ?_ | refine ok_block ?_ | refine ok_skip ?_ | refine ok_ret ?_ | refine x_normal_then ?_
          | refine x_ret_then ?_ | refine x_ret_block ?_ | refine Zt ?_
        exact ⟨ret_vb hf, ro_1 rfl⟩
      have d2 : decide (x.val < 0) = false := decide_eq_false h1
      by_cases h2 : n ≤ x.val
      · have d3 : decide (n ≤ x.val) = true := decide_eq_true h2
        repeat' first
          | refine Z1 ?_ | refine Z2 ?_ | refine Z5 ?_ | refine Z7 ?_ | refine Z9 ?_ | refine Ze ?_ | refine Zh ?_ | refine Zi ?_ | refine Zl ?_ | refine Zm ?_ | refine Zo ?_ | refine ok_seq ?_ | refine Zp ?_ | refine ok_block ?_
          | refine ok_skip ?_ | refine ok_ret ?_ | refine x_normal_then ?_ | refine x_ret_then ?_ | refine x_ret_block ?_ | refine Zt ?_
        exact ⟨ret_vb hf, ro_1 rfl⟩
      have d3 : decide (n ≤ x.val) = false := decide_eq_false h2
      have d4 : decide (x.name ≠ ⟨#[]⟩) = true := decide_eq_true (by rcases hb with h | h | h; exact absurd h h1; exact absurd h h2; exact h)
      repeat' first
        | refine Z1 ?_ | refine Z2 ?_ | refine Z5 ?_ | refine Z7 ?_ | refine Ze ?_ | refine Zh ?_ | refine Zi ?_ | refine Zm ?_ | refine Zo ?_ | refine ok_seq ?_ | refine Zp ?_ | refine ok_block ?_ | refine ok_skip ?_ | refine ok_ret ?_
        | refine x_normal_then ?_ | refine x_ret_then ?_ | refine x_ret_block ?_ | refine Zt ?_
      exact ⟨ret_vb hf, ro_1 rfl⟩
    · have d2 : decide (x.val < 0) = false := decide_eq_false (fun h => hb (.inl h))
      have d3 : decide (n ≤ x.val) = false := decide_eq_false (fun h => hb (.inr (.inl h)))
      have d4 : decide (x.name ≠ ⟨#[]⟩) = false := decide_eq_false (fun h => hb (.inr (.inr h)))
      have hg := go (by simp only [ciI, o25, if_true, hb, if_false])
      repeat' first
        | refine Z1 ?_ | refine Z2 ?_ | refine Z5 ?_ | refine Z7 ?_ | refine Ze ?_ | refine Zf ?_ | refine Zh ?_ | refine Zi ?_ | refine Zm ?_ | refine Zo ?_ | refine ok_seq ?_ | refine ok_reg ?_ | refine Zp ?_ | refine Zq ?_
        | refine ok_block ?_ | refine ok_skip ?_ | refine x_normal_then ?_ | refine x_normal_block ?_
      exact ⟨k + 1, ⟨hlt, hg⟩, by (try simp only); omega, low_mk (Nat.le_of_ble_eq_true rfl) ⟨⟨rfl, rfl⟩, ⟨rfl, rfl⟩, ⟨rfl, rfl⟩, ⟨rfl, rfl⟩, ⟨rfl, rfl⟩, ⟨rfl, rfl⟩, trivial⟩ ⟨⟨rfl, smap_low (fun _ => rfl) _⟩, trivial⟩⟩
  have d1 : decide (x.op = 25) = false := decide_eq_false o25
  by_cases hb : x.op < 1 ∨ 20 < x.op ∨ itemI x = false
  · have hf := fin (by simp only [ciI, o25, if_false, hb, if_true])
    by_cases h1 : x.op < 1
    · have d2 : decide (x.op < 1) = true := decide_eq_true h1
      repeat' first
        | refine Z1 ?_ | refine Z2 ?_ | refine Z5 ?_ | refine Z9 ?_ | refine Ze ?_ | refine Zl ?_ | refine Zo ?_ | refine ok_seq ?_ | refine Zp ?_ | refine Zq ?_ | refine ok_block ?_ | refine ok_skip ?_ | refine ok_ret ?_
        | refine x_normal_then ?_ | refine x_ret_then ?_ | refine x_ret_block ?_ | refine Zt ?_
      exact ⟨ret_vb hf, ro_1 rfl⟩
    have d2 : decide (x.op < 1) = false := decide_eq_false h1
    by_cases h2 : 20 < x.op
    · have d3 : decide (20 < x.op) = true := decide_eq_true h2
      repeat' first
        | refine Z1 ?_ | refine Z2 ?_ | refine Z5 ?_ | refine Z7 ?_ | refine Z9 ?_ | refine Ze ?_ | refine Zh ?_ | refine Zi ?_ | refine Zl ?_ | refine Zm ?_ | refine Zo ?_ | refine ok_seq ?_ | refine Zp ?_ | refine Zq ?_ | refine ok_block ?_
        | refine ok_skip ?_ | refine ok_ret ?_ | refine x_normal_then ?_ | refine x_ret_then ?_ | refine x_ret_block ?_ | refine Zt ?_
      exact ⟨ret_vb hf, ro_1 rfl⟩
    have d3 : decide (20 < x.op) = false := decide_eq_false h2
    have d4 : (!itemI x) = true := by rcases hb with h | h | h; exact absurd h h1; exact absurd h h2; rw [h]; rfl
    repeat' first
      | refine Z1 ?_ | refine Z2 ?_ | refine Z5 ?_ | refine Z7 ?_ | refine Zc (item_ok x) ?_ | refine Ze ?_ | refine Zh ?_ | refine Zi ?_ | refine Zm ?_ | refine Zo ?_ | refine ok_seq ?_ | refine Zp ?_ | refine Zq ?_ | refine ok_block ?_
      | refine ok_skip ?_ | refine ok_ret ?_ | refine x_normal_then ?_ | refine x_ret_then ?_ | refine x_ret_block ?_ | refine Zt ?_
    exact ⟨ret_vb hf, ro_1 rfl⟩
  have d2 : decide (x.op < 1) = false := decide_eq_false (fun h => hb (.inl h))
  have d3 : decide (20 < x.op) = false := decide_eq_false (fun h => hb (.inr (.inl h)))
  have d4 : (!itemI x) = false := by cases hq : itemI x with | true => rfl | false => exact absurd (.inr (.inr hq)) hb
  by_cases o3 : x.op = 3
  · have d5 : decide (x.op = 3) = true := decide_eq_true o3
    cases hs : (sfind F x.name).isSome with
    | false =>
      have d6 : (!(sfind F x.name).isSome) = true := by rw [hs]; rfl
      have hf := fin (by simp only [ciI, o25, hb, if_false]; rw [if_pos o3]; exact hs)
      repeat' first
        | refine Z1 ?_ | refine Z2 ?_ | refine Z5 ?_ | refine Z7 ?_ | refine Zc (item_ok x) ?_ | refine Ya (e := vi) ?_ | refine Ze ?_ | refine Zh ?_ | refine Zi ?_ | refine Zm ?_ | refine Zo ?_ | refine ok_seq ?_ | refine Zp ?_ | refine Zq ?_
        | refine ok_block ?_ | refine ok_skip ?_ | refine ok_ret ?_ | refine x_normal_then ?_ | refine x_ret_then ?_ | refine x_ret_block ?_ | refine Zt ?_
      exact ⟨ret_vb hf, ro_1 rfl⟩
    | true =>
      have d6 : (!(sfind F x.name).isSome) = false := by rw [hs]; rfl
      have hg := go (by simp only [ciI, o25, hb, if_false]; rw [if_pos o3]; exact hs)
      repeat' first
        | refine Z1 ?_ | refine Z2 ?_ | refine Z5 ?_ | refine Z7 ?_ | refine Zc (item_ok x) ?_ | refine Ya (e := vi) ?_ | refine Ze ?_ | refine Zf ?_ | refine Zh ?_ | refine Zi ?_ | refine Zm ?_ | refine Zo ?_ | refine ok_seq ?_
        | refine ok_reg ?_ | refine Zp ?_ | refine Zq ?_ | refine ok_block ?_ | refine ok_skip ?_ | refine x_normal_then ?_ | refine x_normal_block ?_
      exact ⟨k + 1, ⟨hlt, hg⟩, by (try simp only); omega, low_mk (Nat.le_of_ble_eq_true rfl) ⟨⟨rfl, rfl⟩, ⟨rfl, rfl⟩, ⟨rfl, rfl⟩, ⟨rfl, rfl⟩, ⟨rfl, rfl⟩, ⟨rfl, rfl⟩, trivial⟩ ⟨⟨rfl, smap_low (fun _ => rfl) _⟩, trivial⟩⟩
  · have d5 : decide (x.op = 3) = false := decide_eq_false o3
    have hg := go (by simp only [ciI, o25, hb, if_false, o3])
    repeat' first
      | refine Z1 ?_ | refine Z2 ?_ | refine Z5 ?_ | refine Z7 ?_ | refine Zc (item_ok x) ?_ | refine Ze ?_ | refine Zf ?_ | refine Zh ?_ | refine Zi ?_ | refine Zm ?_ | refine Zo ?_ | refine ok_seq ?_ | refine ok_reg ?_ | refine Zp ?_
      | refine Zq ?_ | refine ok_block ?_ | refine ok_skip ?_ | refine x_normal_then ?_ | refine x_normal_block ?_
    exact ⟨k + 1, ⟨hlt, hg⟩, by (try simp only); omega, low_mk (Nat.le_of_ble_eq_true rfl) ⟨⟨rfl, rfl⟩, ⟨rfl, rfl⟩, ⟨rfl, rfl⟩, ⟨rfl, rfl⟩, ⟨rfl, rfl⟩, ⟨rfl, rfl⟩, trivial⟩ ⟨⟨rfl, smap_low (fun _ => rfl) _⟩, trivial⟩⟩
theorem code_ok (F : List (ByteArray × Int)) (n : Int) (l : List Itm) (hl : l.length ≤ 1048576) {σ : St} {i : Nat} (hi : i < σ.next) (ho : σ.obj i = some (.map .string (smap vi F))) : AFun X 45 [.d (.im (l.map eItm)), .mp i, vi n] σ fun E σ' => E = .ret (vb (codeI F n l)) ∧ σ' = σ := by
  have one : ∀ (j : Nat) (o : AO), ([some (AO.map .string (smap vi F))][j]?).join = some o → j = 0 ∧ o = .map .string (smap vi F) := by
    intro j o h
    match j, h with
    | 0, h => exact ⟨rfl, by simpa using h.symm⟩
    | j + 1, h => simp at h
  refine AFun.ro (code_s F n l hl) (fun j o h => ?_) rfl rfl (fun _ => i) (fun a b o o' h h' _ => by rw [(one a o h).1, (one b o' h').1]) (fun j _ => hi) (fun j o h => ?_)
  · obtain ⟨rfl, rfl⟩ := one j o h
    exact smap_low (fun _ => rfl) F
  · obtain ⟨rfl, rfl⟩ := one j o h
    rw [ho]; exact renO_map F (fun _ => rfl)
end Go.Pm
/- How the forest under way lies in memory; a branch more is put in. -/
set_option linter.unusedVariables false
set_option linter.unusedSimpArgs false
namespace Go.Pm
attribute [local irreducible] AR Ok inBlock andThen endQ aoper
set_option maxHeartbeats 1000000
open Go.Proofs
inductive Tag where
  | non | rc | sc | rr | sr | nd (a : Nat) | ny (a : Nat) | nn (a : Nat) | op (o : Nat)
  deriving DecidableEq
structure Gs where
  nd : Nat → Option Gn
  root : List Nat
  stk : List On
  rr : Nat
  rh : Nat
  sa : Bool
  sr : Nat
  sh : Nat
def prf (a : Nat) : List AV := [.ref a 0]
def orf (x : On) : List AV := [.ref x.o 0]
def ncell (g : Gn) : List AV := (eSm g.s).map .d ++ [slcN g.y g.hy g.yes.length, slcN g.n g.hn g.no.length]
structure GRep (σ : St) (G : Gs) (κ : Nat → Tag) (c : Nat) : Prop where
  lt : ∀ i, κ i ≠ .non → i < σ.next
  k0 : κ 0 = .rc
  k1 : κ 1 = .sc
  r0 : σ.obj 0 = some (.var [slcN G.rr G.rh G.root.length])
  r1 : σ.obj 1 = some (.var [slcB G.sa G.sr G.sh G.stk.length])
  sa : G.sa = false → G.stk = []
  rr : G.root ≠ [] → σ.obj G.rr = some (.row G.rh 90 1 (G.root.map prf)) ∧ κ G.rr = .rr
  sr : G.sa = true → (∃ rows, σ.obj G.sr = some (.row G.sh 123 1 rows) ∧ rows.take G.stk.length = G.stk.reverse.map orf ∧ G.stk.length ≤ rows.length) ∧ κ G.sr = .sr
  nd : ∀ a g, G.nd a = some g → σ.obj a = some (.var (ncell g)) ∧ κ a = .nd a ∧ (g.yes ≠ [] → σ.obj g.y = some (.row g.hy 90 1 (g.yes.map prf)) ∧ κ g.y = .ny a) ∧ (g.no ≠ [] → σ.obj g.n = some (.row g.hn 90 1 (g.no.map prf)) ∧ κ g.n = .nn a)
  op : ∀ x ∈ G.stk, σ.obj x.o = some (.var [.ref x.a 0, vb x.els]) ∧ κ x.o = .op x.o ∧ ∃ g, G.nd x.a = some g
  bd : G.root.length ≤ c ∧ G.stk.length ≤ c ∧ ∀ a g, G.nd a = some g → g.yes.length ≤ c ∧ g.no.length ≤ c
def Gs.put (G : Gs) (M i h : Nat) : Gs :=
  match G.stk with
  | [] => { G with root := G.root ++ [M], rr := i, rh := h }
  | x :: _ => { G with nd := fun a => if a = x.a then (G.nd a).map fun g => if x.els then { g with no := g.no ++ [M], n := i, hn := h } else { g with yes := g.yes ++ [M], y := i, hy := h } else G.nd a }
theorem Tag.ne_non_rr {t : Tag} (h : t = .rr) : t ≠ .non := by subst h; intro h; cases h
theorem GRep.put_root {σ σ2 : St} {G : Gs} {κ : Nat → Tag} {c M i hN : Nat} (h : GRep σ G κ c) (hst : G.stk = []) (hn : σ.next < σ2.next) (hi : (G.root = [] ∧ σ.next ≤ i ∧ i < σ2.next) ∨ (G.root ≠ [] ∧ i = G.rr))
    (f0 : σ2.obj 0 = some (.var [.sl i hN 0 (G.root.length + 1)])) (fr : σ2.obj i = some (.row hN 90 1 ((G.root ++ [M]).map prf))) (fo : ∀ j, κ j ≠ .non → j ≠ 0 → j ≠ i → σ2.obj j = σ.obj j) :
    ∃ κ', GRep σ2 (G.put M i hN) κ' (c + 1) ∧ ∀ j, κ j ≠ .non → κ' j = κ j := by
  obtain ⟨hb1, hb2, hb3⟩ := h.bd
  have hold : ∀ j, κ j ≠ .non → κ j ≠ .rr → j ≠ i := by
    intro j h1 h2 e
    subst e
    rcases hi with ⟨_, h3, _⟩ | ⟨h3, h4⟩
    · have := h.lt j h1; omega
    · subst h4; exact h2 (h.rr h3).2
  have hκ : ∀ j, κ j ≠ .non → (if j = i then Tag.rr else κ j) = κ j := by
    intro j h1
    by_cases hj : j = i
    · rw [if_pos hj]
      apply Classical.byContradiction
      intro h2
      exact hold j h1 (fun h3 => h2 h3.symm) hj
    · rw [if_neg hj]
  have t0 : κ 0 ≠ .non := by rw [h.k0]; intro h; cases h
  have t1 : κ 1 ≠ .non := by rw [h.k1]; intro h; cases h
  refine ⟨fun j => if j = i then .rr else κ j, ?_, hκ⟩
  have hG : G.put M i hN = { G with root := G.root ++ [M], rr := i, rh := hN } := by simp only [Gs.put, hst]
  rw [hG]
  refine ⟨fun j hj => ?_, by rw [hκ 0 t0]; exact h.k0, by rw [hκ 1 t1]; exact h.k1, ?_, ?_, h.sa, fun _ => ⟨fr, if_pos rfl⟩, fun hs => ?_, fun a g hg => ?_, fun x hx => ?_, ?_⟩
  · by_cases hji : j = i
    · subst hji
      rcases hi with ⟨_, _, h3⟩ | ⟨h3, h4⟩
      · exact h3
      · have := h.lt j (by rw [h4]; exact Tag.ne_non_rr (h.rr h3).2); omega
    · have hj' : κ j ≠ .non := by simpa [hji] using hj
      have := h.lt j hj'; omega
  · rw [f0]; simp only [List.length_append, List.length_singleton]; rw [slcN_pos (by omega)]
  · rw [fo 1 t1 (by omega) (hold 1 t1 (by rw [h.k1]; intro h; cases h))]; exact h.r1
  · obtain ⟨⟨rows, s1, s2, s3⟩, s4⟩ := h.sr hs
    have ts : κ G.sr ≠ .non := by rw [s4]; intro h; cases h
    have hs0 : G.sr ≠ 0 := fun e => by rw [e, h.k0] at s4; cases s4
    exact ⟨⟨rows, by rw [fo _ ts hs0 (hold _ ts (by rw [s4]; intro h; cases h))]; exact s1, s2, s3⟩, by rw [hκ _ ts]; exact s4⟩
  · obtain ⟨g1, g2, g3, g4⟩ := h.nd a g hg
    have ta : κ a ≠ .non := by rw [g2]; intro h; cases h
    have ha0 : a ≠ 0 := fun e => by subst e; rw [h.k0] at g2; cases g2
    refine ⟨by rw [fo a ta ha0 (hold a ta (by rw [g2]; intro h; cases h))]; exact g1, by rw [hκ a ta]; exact g2, fun hy => ?_, fun hy => ?_⟩
    · obtain ⟨y1, y2⟩ := g3 hy
      have ty : κ g.y ≠ .non := by rw [y2]; intro h; cases h
      have hy0 : g.y ≠ 0 := fun e => by rw [e, h.k0] at y2; cases y2
      exact ⟨by rw [fo _ ty hy0 (hold _ ty (by rw [y2]; intro h; cases h))]; exact y1, by rw [hκ _ ty]; exact y2⟩
    · obtain ⟨y1, y2⟩ := g4 hy
      have ty : κ g.n ≠ .non := by rw [y2]; intro h; cases h
      have hy0 : g.n ≠ 0 := fun e => by rw [e, h.k0] at y2; cases y2
      exact ⟨by rw [fo _ ty hy0 (hold _ ty (by rw [y2]; intro h; cases h))]; exact y1, by rw [hκ _ ty]; exact y2⟩
  · simp only [hst] at hx; cases hx
  · refine ⟨by simp only [List.length_append, List.length_singleton]; omega, by simp only [hst, List.length_nil]; omega, fun a g hg => ?_⟩
    have := hb3 a g hg
    omega
/-- A child more in a branch list of the innermost open node. -/
theorem GRep.put_node {σ σ2 : St} {G : Gs} {κ : Nat → Tag} {c M i hN : Nat} {x : On} {st : List On} {g : Gn} (h : GRep σ G κ c) (hst : G.stk = x :: st) (hg : G.nd x.a = some g) (hn : σ.next < σ2.next)
    (hi : ((if x.els then g.no else g.yes) = [] ∧ σ.next ≤ i ∧ i < σ2.next) ∨ ((if x.els then g.no else g.yes) ≠ [] ∧ i = if x.els then g.n else g.y))
    (f0 : σ2.obj x.a = some (.var (ncell (if x.els then { g with no := g.no ++ [M], n := i, hn := hN } else { g with yes := g.yes ++ [M], y := i, hy := hN }))))
    (fr : σ2.obj i = some (.row hN 90 1 (((if x.els then g.no else g.yes) ++ [M]).map prf))) (fo : ∀ j, κ j ≠ .non → j ≠ x.a → j ≠ i → σ2.obj j = σ.obj j) :
    ∃ κ', GRep σ2 (G.put M i hN) κ' (c + 1) ∧ ∀ j, κ j ≠ .non → κ' j = κ j := by
  obtain ⟨hb1, hb2, hb3⟩ := h.bd
  obtain ⟨x1, x2, x3, x4⟩ := h.nd x.a g hg
  -- the tag of the row that is written
  obtain ⟨tg, htg, htn⟩ : ∃ tg, tg = (if x.els then Tag.nn x.a else Tag.ny x.a) ∧ tg ≠ .non := ⟨_, rfl, by split <;> (intro h; cases h)⟩
  have hitg : (if x.els then g.no else g.yes) ≠ [] → κ (if x.els then g.n else g.y) = tg := by
    intro hne
    rw [htg]
    cases he : x.els with
    | true => rw [he] at hne; exact (x4 hne).2
    | false => rw [he] at hne; exact (x3 hne).2
  have hold : ∀ j, κ j ≠ .non → κ j ≠ tg → j ≠ i := by
    intro j h1 h2 e
    subst e
    rcases hi with ⟨_, h3, _⟩ | ⟨h3, h4⟩
    · have := h.lt j h1; omega
    · rw [h4] at h2; exact h2 (hitg h3)
  have hκ : ∀ j, κ j ≠ .non → (if j = i then tg else κ j) = κ j := by
    intro j h1
    by_cases hj : j = i
    · rw [if_pos hj]
      apply Classical.byContradiction
      intro h2
      exact hold j h1 (fun h3 => h2 h3.symm) hj
    · rw [if_neg hj]
  have tgne : tg ≠ .rc ∧ tg ≠ .sc ∧ tg ≠ .rr ∧ tg ≠ .sr ∧ (∀ b, tg ≠ .nd b) ∧ (∀ o, tg ≠ .op o) := by
    rw [htg]; split <;> refine ⟨?_, ?_, ?_, ?_, ?_, ?_⟩ <;> (first | (intro b h; cases h; done) | (intro h; cases h))
  have t0 : κ 0 ≠ .non := by rw [h.k0]; intro h; cases h
  have t1 : κ 1 ≠ .non := by rw [h.k1]; intro h; cases h
  have hput : G.put M i hN = { G with nd := fun a => if a = x.a then (G.nd a).map fun g => if x.els then { g with no := g.no ++ [M], n := i, hn := hN } else { g with yes := g.yes ++ [M], y := i, hy := hN } else G.nd a } := by simp only [Gs.put, hst]
  refine ⟨fun j => if j = i then tg else κ j, ?_, hκ⟩
  rw [hput]
  have far : ∀ j t, κ j = t → t ≠ .non → t ≠ tg → j ≠ x.a → σ2.obj j = σ.obj j ∧ (if j = i then tg else κ j) = t := by
    intro j t h1 h2 h3 h4
    have h5 : κ j ≠ .non := by rw [h1]; exact h2
    exact ⟨fo j h5 h4 (hold j h5 (by rw [h1]; exact h3)), by rw [hκ j h5]; exact h1⟩
  have xa : ∀ j t, κ j = t → t ≠ .nd x.a → j ≠ x.a := fun j t h1 h2 e => by subst e; rw [x2] at h1; exact h2 h1.symm
  refine ⟨fun j hj => ?_, by rw [hκ 0 t0]; exact h.k0, by rw [hκ 1 t1]; exact h.k1, ?_, ?_, h.sa, fun hne => ?_, fun hne => ?_, fun a g' hg' => ?_, fun y hy => ?_, ?_⟩
  · by_cases hji : j = i
    · subst hji
      rcases hi with ⟨_, _, h3⟩ | ⟨h3, h4⟩
      · exact h3
      · have := h.lt j (by rw [h4, hitg h3]; exact htn); omega
    · have hj' : κ j ≠ .non := by simpa [hji] using hj
      have := h.lt j hj'; omega
  · rw [(far 0 .rc h.k0 (by intro h; cases h) (Ne.symm tgne.1) (xa 0 _ h.k0 (by intro h; cases h))).1]; exact h.r0
  · rw [(far 1 .sc h.k1 (by intro h; cases h) (Ne.symm tgne.2.1) (xa 1 _ h.k1 (by intro h; cases h))).1]; exact h.r1
  · obtain ⟨a1, a2⟩ := h.rr hne
    obtain ⟨b1, b2⟩ := far _ .rr a2 (by intro h; cases h) (Ne.symm tgne.2.2.1) (xa _ _ a2 (by intro h; cases h))
    exact ⟨by rw [b1]; exact a1, b2⟩
  · obtain ⟨⟨rows, a1, a3, a4⟩, a2⟩ := h.sr hne
    obtain ⟨b1, b2⟩ := far _ .sr a2 (by intro h; cases h) (Ne.symm tgne.2.2.2.1) (xa _ _ a2 (by intro h; cases h))
    exact ⟨⟨rows, by rw [b1]; exact a1, a3, a4⟩, b2⟩
  · simp only at hg'
    by_cases hax : a = x.a
    · subst hax
      rw [if_pos rfl, hg, Option.map_some] at hg'
      cases hg'
      have tx : κ x.a ≠ .non := by rw [x2]; intro h; cases h
      refine ⟨f0, by rw [hκ _ tx]; exact x2, fun hy => ?_, fun hy => ?_⟩
      · cases he : x.els with
        | true =>
          simp only [he, if_true] at hy htg ⊢
          obtain ⟨y1, y2⟩ := x3 hy
          obtain ⟨b1, b2⟩ := far _ _ y2 (by intro h; cases h) (by rw [htg]; intro h; cases h) (xa _ _ y2 (by intro h; cases h))
          exact ⟨by rw [b1]; exact y1, b2⟩
        | false =>
          simp only [he, Bool.false_eq_true, if_false] at fr htg ⊢
          exact ⟨fr, by simp [htg]⟩
      · cases he : x.els with
        | true =>
          simp only [he, if_true] at fr htg ⊢
          exact ⟨fr, by simp [htg]⟩
        | false =>
          simp only [he, Bool.false_eq_true, if_false] at hy htg ⊢
          obtain ⟨y1, y2⟩ := x4 hy
          obtain ⟨b1, b2⟩ := far _ _ y2 (by intro h; cases h) (by rw [htg]; intro h; cases h) (xa _ _ y2 (by intro h; cases h))
          exact ⟨by rw [b1]; exact y1, b2⟩
    · rw [if_neg hax] at hg'
      obtain ⟨g1, g2, g3, g4⟩ := h.nd a g' hg'
      obtain ⟨b1, b2⟩ := far a _ g2 (by intro h; cases h) (Ne.symm (tgne.2.2.2.2.1 a)) hax
      refine ⟨by rw [b1]; exact g1, b2, fun hy => ?_, fun hy => ?_⟩
      · obtain ⟨y1, y2⟩ := g3 hy
        obtain ⟨c1, c2⟩ := far _ _ y2 (by intro h; cases h) (by rw [htg]; split <;> (intro h; cases h <;> exact hax rfl)) (xa _ _ y2 (by intro h; cases h))
        exact ⟨by rw [c1]; exact y1, c2⟩
      · obtain ⟨y1, y2⟩ := g4 hy
        obtain ⟨c1, c2⟩ := far _ _ y2 (by intro h; cases h) (by rw [htg]; split <;> (intro h; cases h <;> exact hax rfl)) (xa _ _ y2 (by intro h; cases h))
        exact ⟨by rw [c1]; exact y1, c2⟩
  · obtain ⟨a1, a2, g', a3⟩ := h.op y hy
    obtain ⟨b1, b2⟩ := far _ _ a2 (by intro h; cases h) (Ne.symm (tgne.2.2.2.2.2 _)) (xa _ _ a2 (by intro h; cases h))
    refine ⟨by rw [b1]; exact a1, b2, ?_⟩
    by_cases hya : y.a = x.a
    · show ∃ g', (if y.a = x.a then _ else _) = some g'
      rw [if_pos hya, hya, hg]; exact ⟨_, rfl⟩
    · show ∃ g', (if y.a = x.a then _ else _) = some g'
      rw [if_neg hya]; exact ⟨g', a3⟩
  · refine ⟨by simp only; omega, by simp only; omega, fun a g' hg' => ?_⟩
    simp only at hg'
    by_cases hax : a = x.a
    · subst hax
      rw [if_pos rfl, hg, Option.map_some] at hg'
      cases hg'
      have := hb3 _ g hg
      split <;> simp only [List.length_append, List.length_singleton] <;> omega
    · rw [if_neg hax] at hg'
      have := hb3 a g' hg'
      omega
set_option maxHeartbeats 4000000 in
theorem put_ok {σ : St} {G : Gs} {κ : Nat → Tag} {c : Nat} (h : GRep σ G κ c) (hc : c ≤ 2097152) (M : Nat) : AFun X 70 [.ref M 0, .ref 1 0, .ref 0 0] σ fun E σ' => E = .ret (.tup []) ∧ ∃ i hd κ', GRep σ' (G.put M i hd) κ' (c + 1) ∧ σ.next ≤ σ'.next ∧ (∀ j, κ j ≠ .non → κ' j = κ j) := by
  obtain ⟨hb1, hb2, hb3⟩ := h.bd
  have t0 : κ 0 ≠ .non := by rw [h.k0]; intro h; cases h
  have t1 : κ 1 ≠ .non := by rw [h.k1]; intro h; cases h
  have l0 := h.lt 0 t0
  have l1 := h.lt 1 t1
  refine afun_of Tryd.func70 rfl (by decide) Tryd.ntmps70 Tryd.results70 (by simp) ?_
  have ht0 : decide (((0 : Nat) : Int) = 0) = true := rfl
  rcases hst : G.stk with _ | ⟨x, st⟩
  · have r1 := h.r1
    rw [hst] at r1
    repeat' first
      | refine Z5 ?_ | refine Zo ?_ | refine ok_seq ?_
    refine Yr r1 ?_
    repeat' first
      | refine Z1 ?_ | refine Z2 ?_ | refine Z5 ?_ | refine Yx2 (fun _ => rfl) ?_ | refine Zo ?_ | refine Zp ?_
    refine Yr h.r0 ?_
    repeat' first
      | refine Z1 ?_ | refine Z5 ?_ | refine Yw (sz := 1) (rows := [prf M]) ?_
    refine app1 (f := prf) (l := G.root) (y := M) (h := G.rh) (i := G.rr) (k := σ.next) (v := σ.next) (fun hne => ?_) ?_ (fun _ => rfl) (fun i' σ' e1 e2 e3 e4 => ?_)
    · have := h.lt G.rr (by rw [(h.rr hne).2]; intro h; cases h)
      rw [St.obj_alloc, if_neg (by omega)]
      exact (h.rr hne).1
    · rw [St.obj_alloc, if_pos rfl]
    have hi0 : i' ≠ 0 := by
      rw [e1]
      split
      · simp only [St.next_alloc]; omega
      · rename_i hne
        intro e
        have := (h.rr hne).2
        rw [e, h.k0] at this; cases this
    have f0 : σ'.obj 0 = some (.var [slcN G.rr G.rh G.root.length]) := by
      rw [e3 0 (Ne.symm hi0), St.obj_alloc, if_neg (by omega)]; exact h.r0
    repeat' first
      | refine Z2 ?_ | refine Z5 ?_ | refine Yt f0 ?_ | refine ret0 ?_ | refine ok_ret ?_ | refine x_ret_then ?_
    refine ⟨rfl, i', σ.next + 1, ?_⟩
    obtain ⟨κ', h1, h2⟩ := h.put_root (M := M) (i := i') (hN := σ.next + 1) (σ2 := σ'.set 0 _) hst (by simp only [St.next_set, e4, St.next_alloc]; omega) (by
      rw [e1]
      by_cases hr : G.root = []
      · left; rw [if_pos hr]; simp only [St.next_set, e4, St.next_alloc]; exact ⟨hr, by omega, by omega⟩
      · right; rw [if_neg hr]; exact ⟨hr, rfl⟩) (by rw [St.obj_set, if_pos rfl]) (by rw [St.obj_set, if_neg hi0]; exact e2) (fun j hj hj0 hji => by
        have := h.lt j hj
        rw [St.obj_set, if_neg hj0, e3 j hji, St.obj_alloc, if_neg (by omega)])
    exact ⟨κ', h1, by simp only [St.next_set, e4, St.next_alloc]; omega, h2⟩
  · have r1 := h.r1
    have hsa : G.sa = true := by
      cases hq : G.sa with
      | true => rfl
      | false => rw [h.sa hq] at hst; cases hst
    rw [hst, List.length_cons, show slcB G.sa G.sr G.sh (st.length + 1) = .sl G.sr G.sh 0 (st.length + 1) by rw [hsa]; rfl] at r1
    have hsl : st.length + 1 ≤ c := by rw [hst] at hb2; exact hb2
    obtain ⟨rows, hsr, hsr2, hsr3⟩ := (h.sr hsa).1
    rw [hst] at hsr2 hsr3
    obtain ⟨hop, hopt, g, hg⟩ := h.op x (by rw [hst]; exact List.mem_cons_self)
    obtain ⟨x1, x2, x3, x4⟩ := h.nd x.a g hg
    have hgb := hb3 x.a g hg
    have hget : rows[st.length]? = some (orf x) := by
      have h1 : (rows.take (x :: st).length)[st.length]? = some (orf x) := by rw [hsr2]; simp
      rwa [List.getElem?_take, if_pos (by simp)] at h1
    have e1 : decide (((st.length + 1 - 0 : Nat) : Int) = 0) = false := decide_eq_false (by omega)
    have lo := h.lt x.o (by rw [hopt]; intro h; cases h)
    have la := h.lt x.a (by rw [x2]; intro h; cases h)
    have hao : x.a ≠ x.o := fun e => by rw [e, hopt] at x2; cases x2
    have hT : ∀ o' j, j = x.o ∨ j = x.a → (σ.alloc o').obj j = σ.obj j := fun o' j hj => by
      rw [St.obj_alloc, if_neg (by rcases hj with rfl | rfl <;> omega)]
    cases hels : x.els with
    | true =>
      have hgn : g.no ≠ [] → (σ.alloc (.row σ.next 90 1 [prf M])).obj g.n = some (.row g.hn 90 1 (g.no.map prf)) := fun hne => by
        have := h.lt g.n (by rw [(x4 hne).2]; intro h; cases h)
        rw [St.obj_alloc, if_neg (by omega)]; exact (x4 hne).1
      have hin : ∀ j, j = x.o ∨ j = x.a → j ≠ (if g.no.isEmpty then (σ.alloc (.row σ.next 90 1 [prf M])).next else g.n) := fun j hj e => by
        split at e
        · simp only [St.next_alloc] at e; rcases hj with rfl | rfl <;> omega
        · rename_i hne
          have := (x4 (by simpa using hne)).2
          rw [← e] at this
          rcases hj with rfl | rfl
          · rw [hopt] at this; cases this
          · rw [x2] at this; cases this
      have hii : ∀ j, j = (if g.no.isEmpty then σ.next + 1 else g.n) → ¬ j = x.a := fun j hj e => hin x.a (.inr rfl) (by rw [← e]; exact hj)
      repeat' first
        | refine Z1 ?_ | refine Z2 ?_ | refine Z5 ?_ | refine Ys r1 ?_ | refine Yi1 (n := ((st.length + 1 - 0 : Nat) : Int) - 1) (hi := st.length + 1) st.length hsr (by omega) (by omega) ?_ | refine Ye1 hsr hget ?_ | refine nil_check ?_
        | refine Ys hop ?_ | refine Zg ?_ | refine Zo ?_ | refine ok_seq ?_ | refine Zp ?_ | refine Zq ?_ | refine ok_skip ?_ | refine x_normal_then ?_
      refine ok_drawE (fun j => j = x.o ∨ j = x.a) [12, 13, 16] X_mixed (by decide +kernel) ?_
      repeat' first
        | refine Wa ?_ | refine Wn ?_ | refine Wl hop (.inl rfl) ?_ | refine Wr x1 (.inr rfl) ?_
      refine We (Yw (sz := 1) (rows := [prf M]) ⟨rfl, rfl⟩) (.inr (hT _)) ?_
      refine We (app1d (f := prf) (l := g.no) (y := M) (h := g.hn) (i := g.n) (k := σ.next) (v := σ.next) hgn (by rw [St.obj_alloc, if_pos rfl]) (fun _ => rfl) ⟨rfl, rfl⟩) (.inr fun j hj => appS_ne (hin j hj)) ?_
      repeat' first
        | refine Wa ?_ | refine Wn ?_
      refine We (Yt (by rw [appS_ne (hin _ (.inr rfl)), hT _ _ (.inr rfl)]; exact x1) ⟨rfl, rfl⟩) (.inl rfl) ?_
      refine Wy ?_
      refine nrm0 ?_
      refine ⟨rfl, if g.no.isEmpty then σ.next + 1 else g.n, σ.next + 1, ?_⟩
      refine Exists.imp (fun κ' (hh : _ ∧ _) => ⟨hh.1, ?_, hh.2⟩) (h.put_node (M := M) (hN := σ.next + 1) hst hg ?_ ?_ ?_ ?_ ?_)
      · simp only [St.next_set, appS_next, St.next_alloc]; omega
      · simp only [St.next_set, appS_next, St.next_alloc]; omega
      · simp only [hels, if_true]
        by_cases hno : g.no = []
        · left; simp only [hno, List.isEmpty_nil, if_true, St.next_set, appS_next, St.next_alloc]; exact ⟨trivial, by omega, by omega⟩
        · right; exact ⟨hno, by rw [if_neg (by simpa using hno)]⟩
      · rw [St.obj_set, if_pos rfl]
        simp only [hels, if_true, ncell, List.length_append, List.length_singleton]
        rw [slcN_pos (Nat.succ_ne_zero g.no.length)]
        rfl
      · rw [St.obj_set, if_neg (hii _ rfl)]
        simp only [hels, if_true]
        exact appS_self
      · intro j hj hja hji
        have := h.lt j hj
        rw [St.obj_set, if_neg hja, appS_ne hji, St.obj_alloc, if_neg (by omega)]
    | false =>
      have hgn : g.yes ≠ [] → (σ.alloc (.row σ.next 90 1 [prf M])).obj g.y = some (.row g.hy 90 1 (g.yes.map prf)) := fun hne => by
        have := h.lt g.y (by rw [(x3 hne).2]; intro h; cases h)
        rw [St.obj_alloc, if_neg (by omega)]; exact (x3 hne).1
      have hin : ∀ j, j = x.o ∨ j = x.a → j ≠ (if g.yes.isEmpty then (σ.alloc (.row σ.next 90 1 [prf M])).next else g.y) := fun j hj e => by
        split at e
        · simp only [St.next_alloc] at e; rcases hj with rfl | rfl <;> omega
        · rename_i hne
          have := (x3 (by simpa using hne)).2
          rw [← e] at this
          rcases hj with rfl | rfl
          · rw [hopt] at this; cases this
          · rw [x2] at this; cases this
      have hii : ∀ j, j = (if g.yes.isEmpty then σ.next + 1 else g.y) → ¬ j = x.a := fun j hj e => hin x.a (.inr rfl) (by rw [← e]; exact hj)
      repeat' first
        | refine Z1 ?_ | refine Z2 ?_ | refine Z5 ?_ | refine Ys r1 ?_ | refine Yi1 (n := ((st.length + 1 - 0 : Nat) : Int) - 1) (hi := st.length + 1) st.length hsr (by omega) (by omega) ?_ | refine Ye1 hsr hget ?_ | refine nil_check ?_
        | refine Ys hop ?_ | refine Zg ?_ | refine Zo ?_ | refine ok_seq ?_ | refine Zq ?_ | refine ok_skip ?_ | refine x_normal_then ?_
      refine ok_drawE (fun j => j = x.o ∨ j = x.a) [12, 13, 16] X_mixed (by decide +kernel) ?_
      repeat' first
        | refine Wa ?_ | refine Wn ?_ | refine Wl hop (.inl rfl) ?_ | refine Wr x1 (.inr rfl) ?_
      refine We (Yw (sz := 1) (rows := [prf M]) ⟨rfl, rfl⟩) (.inr (hT _)) ?_
      refine We (app1d (f := prf) (l := g.yes) (y := M) (h := g.hy) (i := g.y) (k := σ.next) (v := σ.next) hgn (by rw [St.obj_alloc, if_pos rfl]) (fun _ => rfl) ⟨rfl, rfl⟩) (.inr fun j hj => appS_ne (hin j hj)) ?_
      repeat' first
        | refine Wa ?_ | refine Wn ?_
      refine We (Yt (by rw [appS_ne (hin _ (.inr rfl)), hT _ _ (.inr rfl)]; exact x1) ⟨rfl, rfl⟩) (.inl rfl) ?_
      refine Wy ?_
      refine nrm0 ?_
      refine ⟨rfl, if g.yes.isEmpty then σ.next + 1 else g.y, σ.next + 1, ?_⟩
      refine Exists.imp (fun κ' (hh : _ ∧ _) => ⟨hh.1, ?_, hh.2⟩) (h.put_node (M := M) (hN := σ.next + 1) hst hg ?_ ?_ ?_ ?_ ?_)
      · simp only [St.next_set, appS_next, St.next_alloc]; omega
      · simp only [St.next_set, appS_next, St.next_alloc]; omega
      · simp only [hels, Bool.false_eq_true, if_false]
        by_cases hno : g.yes = []
        · left; simp only [hno, List.isEmpty_nil, if_true, St.next_set, appS_next, St.next_alloc]; exact ⟨trivial, by omega, by omega⟩
        · right; exact ⟨hno, by rw [if_neg (by simpa using hno)]⟩
      · rw [St.obj_set, if_pos rfl]
        simp only [hels, Bool.false_eq_true, if_false, ncell, List.length_append, List.length_singleton]
        rw [slcN_pos (Nat.succ_ne_zero g.yes.length)]
        rfl
      · rw [St.obj_set, if_neg (hii _ rfl)]
        simp only [hels, Bool.false_eq_true, if_false]
        exact appS_self
      · intro j hj hja hji
        have := h.lt j hj
        rw [St.obj_set, if_neg hja, appS_ne hji, St.obj_alloc, if_neg (by omega)]
end Go.Pm
