/- The table of the types of this translation, as the abstract machine looks at them (printed by wip/gen_types.py), and that it fits the program. -/
import Derived.Test.YtomoocbacokkpaaDoorProg
import Derived.Test.YtomoocbacokkpaaDoorA1
import Derived.Test.YtomoocbacokkpaaDoorA3
import Derived.Test.YtomoocbacokkpaaDoorA4
set_option linter.unusedVariables false
namespace Go.Pm
def tyL : List (Option TI) := [
  none,
  some ⟨.func, 1, 8, [.nilFunc], false⟩,
  some ⟨.int .i64, 1, 8, [.int .i64 0], false⟩,
  some ⟨.int .i64, 1, 8, [.int .i64 0], false⟩,
  some ⟨.bool, 1, 1, [.bool false], false⟩,
  some ⟨.int .u8, 1, 1, [.int .u8 0], false⟩,
  some ⟨.int .u8, 1, 1, [.int .u8 0], false⟩,
  some ⟨.struct [(0, 2), (1, 3), (2, 4), (3, 6)], 4, 24, [.int .i64 0, .int .i64 0, .bool false, .int .u8 0], false⟩,
  some ⟨.struct [(0, 2), (1, 3), (2, 4), (3, 6)], 4, 24, [.int .i64 0, .int .i64 0, .bool false, .int .u8 0], false⟩,
  some ⟨.string, 1, 16, [.string .empty], false⟩,
  some ⟨.string, 1, 16, [.string .empty], false⟩,
  some ⟨.string, 1, 16, [.string .empty], false⟩,
  some ⟨.int .u64, 1, 8, [.int .u64 0], false⟩,
  some ⟨.struct [(0, 9), (1, 12)], 2, 24, [.string .empty, .int .u64 0], false⟩,
  some ⟨.struct [(0, 9), (1, 12)], 2, 24, [.string .empty, .int .u64 0], false⟩,
  some ⟨.ptr 139, 1, 8, [.pointer none], false⟩,
  some ⟨.ptr 142, 1, 8, [.pointer none], false⟩,
  some ⟨.ptr 152, 1, 8, [.pointer none], false⟩,
  some ⟨.struct [(0, 17)], 1, 8, [.pointer none], false⟩,
  some ⟨.struct [(0, 17)], 1, 8, [.pointer none], false⟩,
  some ⟨.iface, 1, 16, [.nilIface], false⟩,
  some ⟨.int .i32, 1, 4, [.int .i32 0], false⟩,
  some ⟨.slice 51, 1, 24, [.slice none 0 0], false⟩,
  some ⟨.struct [(0, 22)], 1, 24, [.slice none 0 0], false⟩,
  some ⟨.struct [(0, 22)], 1, 24, [.slice none 0 0], false⟩,
  some ⟨.func, 1, 8, [.nilFunc], false⟩,
  some ⟨.func, 1, 8, [.nilFunc], false⟩,
  some ⟨.slice 55, 1, 24, [.slice none 0 0], false⟩,
  some ⟨.struct [(0, 27)], 1, 24, [.slice none 0 0], false⟩,
  some ⟨.struct [(0, 27)], 1, 24, [.slice none 0 0], false⟩,
  some ⟨.func, 1, 8, [.nilFunc], false⟩,
  some ⟨.func, 1, 8, [.nilFunc], false⟩,
  some ⟨.func, 1, 8, [.nilFunc], false⟩,
  some ⟨.func, 1, 8, [.nilFunc], false⟩,
  some ⟨.func, 1, 8, [.nilFunc], false⟩,
  some ⟨.func, 1, 8, [.nilFunc], false⟩,
  some ⟨.func, 1, 8, [.nilFunc], false⟩,
  some ⟨.slice 3, 1, 24, [.slice none 0 0], false⟩,
  some ⟨.func, 1, 8, [.nilFunc], false⟩,
  some ⟨.func, 1, 8, [.nilFunc], false⟩,
  some ⟨.ptr 45, 1, 8, [.pointer none], false⟩,
  none,
  some ⟨.func, 1, 8, [.nilFunc], false⟩,
  some ⟨.func, 1, 8, [.nilFunc], false⟩,
  some ⟨.struct [(0, 37), (1, 37)], 2, 48, [.slice none 0 0, .slice none 0 0], false⟩,
  some ⟨.struct [(0, 37), (1, 37)], 2, 48, [.slice none 0 0, .slice none 0 0], false⟩,
  some ⟨.func, 1, 8, [.nilFunc], false⟩,
  some ⟨.slice 114, 1, 24, [.slice none 0 0], false⟩,
  some ⟨.slice 9, 1, 24, [.slice none 0 0], false⟩,
  some ⟨.slice 119, 1, 24, [.slice none 0 0], false⟩,
  some ⟨.struct [(0, 9), (1, 47), (2, 47), (3, 48), (4, 37), (5, 37), (6, 49)], 7, 160, [.string .empty, .slice none 0 0, .slice none 0 0, .slice none 0 0, .slice none 0 0, .slice none 0 0, .slice none 0 0], false⟩,
  some ⟨.struct [(0, 9), (1, 47), (2, 47), (3, 48), (4, 37), (5, 37), (6, 49)], 7, 160, [.string .empty, .slice none 0 0, .slice none 0 0, .slice none 0 0, .slice none 0 0, .slice none 0 0, .slice none 0 0], false⟩,
  some ⟨.slice 60, 1, 24, [.slice none 0 0], false⟩,
  some ⟨.slice 65, 1, 24, [.slice none 0 0], false⟩,
  some ⟨.struct [(0, 9), (1, 52), (2, 52), (3, 48), (4, 37), (5, 37), (6, 53)], 7, 160, [.string .empty, .slice none 0 0, .slice none 0 0, .slice none 0 0, .slice none 0 0, .slice none 0 0, .slice none 0 0], false⟩,
  some ⟨.struct [(0, 9), (1, 52), (2, 52), (3, 48), (4, 37), (5, 37), (6, 53)], 7, 160, [.string .empty, .slice none 0 0, .slice none 0 0, .slice none 0 0, .slice none 0 0, .slice none 0 0, .slice none 0 0], false⟩,
  some ⟨.func, 1, 8, [.nilFunc], false⟩,
  some ⟨.func, 1, 8, [.nilFunc], false⟩,
  some ⟨.func, 1, 8, [.nilFunc], false⟩,
  some ⟨.struct [(0, 9), (1, 3)], 2, 24, [.string .empty, .int .i64 0], false⟩,
  some ⟨.struct [(0, 9), (1, 3)], 2, 24, [.string .empty, .int .i64 0], true⟩,
  some ⟨.func, 1, 8, [.nilFunc], false⟩,
  some ⟨.slice 101, 1, 24, [.slice none 0 0], false⟩,
  some ⟨.slice 62, 1, 24, [.slice none 0 0], false⟩,
  some ⟨.struct [(0, 3), (1, 9), (2, 3), (3, 48), (4, 62), (5, 63)], 6, 104, [.int .i64 0, .string .empty, .int .i64 0, .slice none 0 0, .slice none 0 0, .slice none 0 0], false⟩,
  some ⟨.struct [(0, 3), (1, 9), (2, 3), (3, 48), (4, 62), (5, 63)], 6, 104, [.int .i64 0, .string .empty, .int .i64 0, .slice none 0 0, .slice none 0 0, .slice none 0 0], false⟩,
  some ⟨.func, 1, 8, [.nilFunc], false⟩,
  some ⟨.func, 1, 8, [.nilFunc], false⟩,
  none,
  some ⟨.func, 1, 8, [.nilFunc], false⟩,
  some ⟨.func, 1, 8, [.nilFunc], false⟩,
  some ⟨.func, 1, 8, [.nilFunc], false⟩,
  some ⟨.func, 1, 8, [.nilFunc], false⟩,
  some ⟨.map 9 4, 1, 8, [.map none], false⟩,
  some ⟨.map 9 3, 1, 8, [.map none], false⟩,
  none,
  some ⟨.func, 1, 8, [.nilFunc], false⟩,
  some ⟨.slice 52, 1, 24, [.slice none 0 0], false⟩,
  some ⟨.func, 1, 8, [.nilFunc], false⟩,
  some ⟨.func, 1, 8, [.nilFunc], false⟩,
  some ⟨.slice 84, 1, 24, [.slice none 0 0], false⟩,
  none,
  some ⟨.func, 1, 8, [.nilFunc], false⟩,
  some ⟨.func, 1, 8, [.nilFunc], false⟩,
  some ⟨.ptr 86, 1, 8, [.pointer none], false⟩,
  some ⟨.struct [(0, 65), (6, 80), (7, 80)], 8, 152, [.int .i64 0, .string .empty, .int .i64 0, .slice none 0 0, .slice none 0 0, .slice none 0 0, .slice none 0 0, .slice none 0 0], false⟩,
  some ⟨.struct [(0, 65), (6, 80), (7, 80)], 8, 152, [.int .i64 0, .string .empty, .int .i64 0, .slice none 0 0, .slice none 0 0, .slice none 0 0, .slice none 0 0, .slice none 0 0], false⟩,
  some ⟨.func, 1, 8, [.nilFunc], false⟩,
  some ⟨.func, 1, 8, [.nilFunc], false⟩,
  some ⟨.func, 1, 8, [.nilFunc], false⟩,
  some ⟨.func, 1, 8, [.nilFunc], false⟩,
  some ⟨.func, 1, 8, [.nilFunc], false⟩,
  some ⟨.func, 1, 8, [.nilFunc], false⟩,
  some ⟨.func, 1, 8, [.nilFunc], false⟩,
  some ⟨.func, 1, 8, [.nilFunc], false⟩,
  some ⟨.func, 1, 8, [.nilFunc], false⟩,
  some ⟨.func, 1, 8, [.nilFunc], false⟩,
  some ⟨.func, 1, 8, [.nilFunc], false⟩,
  some ⟨.func, 1, 8, [.nilFunc], false⟩,
  some ⟨.func, 1, 8, [.nilFunc], false⟩,
  some ⟨.struct [(0, 3), (1, 3), (2, 9)], 3, 32, [.int .i64 0, .int .i64 0, .string .empty], false⟩,
  some ⟨.struct [(0, 3), (1, 3), (2, 9)], 3, 32, [.int .i64 0, .int .i64 0, .string .empty], true⟩,
  some ⟨.func, 1, 8, [.nilFunc], false⟩,
  some ⟨.func, 1, 8, [.nilFunc], false⟩,
  some ⟨.slice 105, 1, 24, [.slice none 0 0], false⟩,
  some ⟨.ptr 107, 1, 8, [.pointer none], false⟩,
  some ⟨.struct [(0, 84), (1, 4)], 2, 16, [.pointer none, .bool false], false⟩,
  some ⟨.struct [(0, 84), (1, 4)], 2, 16, [.pointer none, .bool false], false⟩,
  some ⟨.func, 1, 8, [.nilFunc], false⟩,
  some ⟨.func, 1, 8, [.nilFunc], false⟩,
  some ⟨.func, 1, 8, [.nilFunc], false⟩,
  some ⟨.func, 1, 8, [.nilFunc], false⟩,
  some ⟨.func, 1, 8, [.nilFunc], false⟩,
  some ⟨.func, 1, 8, [.nilFunc], false⟩,
  some ⟨.struct [(0, 9), (1, 3)], 2, 24, [.string .empty, .int .i64 0], false⟩,
  some ⟨.func, 1, 8, [.nilFunc], false⟩,
  some ⟨.slice 134, 1, 24, [.slice none 0 0], false⟩,
  some ⟨.slice 116, 1, 24, [.slice none 0 0], false⟩,
  some ⟨.struct [(0, 3), (1, 9), (2, 3), (3, 48), (4, 116), (5, 117)], 6, 104, [.int .i64 0, .string .empty, .int .i64 0, .slice none 0 0, .slice none 0 0, .slice none 0 0], false⟩,
  some ⟨.struct [(0, 3), (1, 9), (2, 3), (3, 48), (4, 116), (5, 117)], 6, 104, [.int .i64 0, .string .empty, .int .i64 0, .slice none 0 0, .slice none 0 0, .slice none 0 0], false⟩,
  some ⟨.func, 1, 8, [.nilFunc], false⟩,
  some ⟨.func, 1, 8, [.nilFunc], false⟩,
  some ⟨.func, 1, 8, [.nilFunc], false⟩,
  some ⟨.func, 1, 8, [.nilFunc], false⟩,
  some ⟨.func, 1, 8, [.nilFunc], false⟩,
  some ⟨.func, 1, 8, [.nilFunc], false⟩,
  some ⟨.func, 1, 8, [.nilFunc], false⟩,
  some ⟨.func, 1, 8, [.nilFunc], false⟩,
  some ⟨.func, 1, 8, [.nilFunc], false⟩,
  some ⟨.func, 1, 8, [.nilFunc], false⟩,
  some ⟨.func, 1, 8, [.nilFunc], false⟩,
  some ⟨.func, 1, 8, [.nilFunc], false⟩,
  some ⟨.func, 1, 8, [.nilFunc], false⟩,
  some ⟨.func, 1, 8, [.nilFunc], false⟩,
  some ⟨.struct [(0, 3), (1, 3), (2, 9)], 3, 32, [.int .i64 0, .int .i64 0, .string .empty], false⟩,
  some ⟨.func, 1, 8, [.nilFunc], false⟩,
  some ⟨.func, 1, 8, [.nilFunc], false⟩,
  some ⟨.func, 1, 8, [.nilFunc], false⟩,
  some ⟨.struct [(0, 17), (1, 17), (2, 17), (3, 9)], 4, 40, [.pointer none, .pointer none, .pointer none, .string .empty], false⟩,
  some ⟨.struct [(0, 17), (1, 17), (2, 17), (3, 9)], 4, 40, [.pointer none, .pointer none, .pointer none, .string .empty], false⟩,
  none,
  none,
  none,
  some ⟨.func, 1, 8, [.nilFunc], false⟩,
  some ⟨.int .u32, 1, 4, [.int .u32 0], false⟩,
  some ⟨.int .u8, 1, 1, [.int .u8 0], false⟩,
  some ⟨.int .u8, 1, 1, [.int .u8 0], false⟩,
  some ⟨.func, 1, 8, [.nilFunc], false⟩,
  some ⟨.ptr 5, 1, 8, [.pointer none], false⟩,
  some ⟨.int .i32, 1, 4, [.int .i32 0], false⟩,
  some ⟨.int .i32, 1, 4, [.int .i32 0], false⟩,
  some ⟨.struct [(0, 12), (1, 12), (2, 144), (3, 145), (4, 5), (5, 5), (6, 146), (7, 147), (8, 148), (9, 149), (10, 150)], 11, 48, [.int .u64 0, .int .u64 0, .int .u32 0, .int .u8 0, .int .u8 0, .int .u8 0, .int .u8 0, .nilFunc, .pointer none, .int .i32 0, .int .i32 0], false⟩,
  some ⟨.struct [(0, 12), (1, 12), (2, 144), (3, 145), (4, 5), (5, 5), (6, 146), (7, 147), (8, 148), (9, 149), (10, 150)], 11, 48, [.int .u64 0, .int .u64 0, .int .u32 0, .int .u8 0, .int .u8 0, .int .u8 0, .int .u8 0, .nilFunc, .pointer none, .int .i32 0, .int .i32 0], false⟩,
  none]
set_option maxRecDepth 100000 in
theorem tyL_ok : checkAll Go.Proofs.Tryd.prog tyL tyL 0 = true := by kernel_rfl
-- types: 1=func() 2=int64 3=int 4=bool 5=uint8 6=abi.BoundsErrorCode 8=runtime.boundsError 9=string 10=runtime.errorString 11=runtime.plainError 12=uintptr 13=struct_{_msg_string;_addr_uintptr_} 14=runtime.errorAddressString 15=RuntimeError 16=RuntimeError 17=Align 18=struct_{_typ_*abi.Type_} 19=maps.unhashableTypeError 20=interface_{} 21=int32 22=[]laws.Class 23=struct_{_Classes_[]laws.Class_} 24=laws.Machine 25=func(laws.Machine,_int)_int 26=func(impl.Machine)_bool 27=[]impl.Class 28=struct_{_Classes_[]impl.Class_} 29=impl.Machine 30=func(laws.Machine)_impl.Machine 31=func(impl.Machine,_impl.Machine)_bool 32=func(laws.Machine)_bool 33=func(impl.Machine,_int)_int 34=func(laws.Machine,_int)_bool 35=func([]laws.Class,_int)_int 36=func(impl.Machine,_int)_bool 37=[]int 38=func(impl.Machine)_[]int 39=func([]laws.Class)_[]impl.Class 40=*impl.sizes 42=func(impl.Machine)_(*impl.sizes,_bool) 43=func([]impl.Class,_[]impl.Class)_bool 44=struct_{_cells_[]int;_bound_[]int_} 45=impl.sizes 46=func(laws.Class,_int)_int 47=[]laws.Slot 48=[]string 49=[]laws.Stm 51=laws.Class 52=[]impl.Slot 53=[]impl.Stm 55=impl.Class 56=func(string)_bool 57=func(impl.Class)_[]string 58=func([]string,_string)_int 59=struct_{_Name_string;_Type_int_} 60=impl.Slot 61=func(int)_int 62=[]impl.Item 63=[][]impl.Item 65=impl.Stm 66=func(impl.Machine,_impl.Class,_impl.Stm)_bool 67=func([]impl.Stm,_int)_bool 69=func([]impl.Stm,_int)_(int,_int) 70=func(impl.Stm,_string)_bool 71=func(impl.Class,_[]impl.Stm,_[]int)_int 72=func(laws.Class)_impl.Class 73=map[string]bool 74=map[string]int 76=func(string,_int)_bool 77=[][]impl.Slot 78=func(int)_bool 79=func([]impl.Item,_map[string]int,_int)_bool 80=[]*impl.branch 82=func([]impl.Stm)_([]*impl.branch,_bool) 83=func([]*impl.branch)_int 84=*impl.branch 86=impl.branch 87=func(impl.Class,_impl.Class)_bool 88=func([]laws.Slot,_int)_int 89=func([]string,_int)_int 90=func([]int,_int)_int 91=func([]laws.Stm,_int)_int 92=func(impl.Class,_string)_bool 93=func(impl.Class,_[]impl.Item)_bool 94=func([]string,_string)_bool 95=func([]laws.Slot)_[]impl.Slot 96=func([]string)_[]string 97=func([]int)_[]int 98=func([]laws.Stm)_[]impl.Stm 99=func(uint8)_bool 100=struct_{_Op_int;_Val_int;_Name_string_} 101=impl.Item 102=func(impl.Item)_bool 103=func([]impl.Item)_bool 104=[]*impl.open 105=*impl.open 106=struct_{_b_*impl.branch;_els_bool_} 107=impl.open 108=func(*impl.branch) 109=func([]impl.Slot,_[]impl.Slot)_bool 110=func([]string,_[]string)_bool 111=func([]int,_[]int)_bool 112=func([]impl.Stm,_[]impl.Stm)_bool 113=func(laws.Slot,_int)_int 114=laws.Slot 115=func(laws.Stm,_int)_int 116=[]laws.Item 117=[][]laws.Item 119=laws.Stm 120=func()_[]string 121=func([]impl.Item,_int)_bool 122=func(laws.Slot)_impl.Slot 123=func(laws.Stm)_impl.Stm 124=func(impl.Slot,_impl.Slot)_bool 125=func(impl.Stm,_impl.Stm)_bool 126=func([]laws.Item,_int)_int 127=func([][]laws.Item,_int)_int 128=func([]impl.Item,_int)_int 129=func([]laws.Item)_[]impl.Item 130=func([][]laws.Item)_[][]impl.Item 131=func([]impl.Item,_[]impl.Item)_bool 132=func([][]impl.Item,_[][]impl.Item)_bool 133=func(laws.Item,_int)_int 134=laws.Item 135=func(laws.Item)_impl.Item 136=func(impl.Item,_impl.Item)_bool 137=func()_string 139=runtime.TypeAssertionError 143=func()_int 144=uint32 145=abi.TFlag 146=abi.Kind 147=func(unsafe.Pointer,_unsafe.Pointer)_bool 148=*uint8 149=abi.NameOff 150=abi.TypeOff 152=abi.Type
theorem look1 : look tyL 1 = some ⟨.func, 1, 8, [.nilFunc], false⟩ := rfl
theorem look2 : look tyL 2 = some ⟨.int .i64, 1, 8, [.int .i64 0], false⟩ := rfl
theorem look3 : look tyL 3 = some ⟨.int .i64, 1, 8, [.int .i64 0], false⟩ := rfl
theorem look4 : look tyL 4 = some ⟨.bool, 1, 1, [.bool false], false⟩ := rfl
theorem look5 : look tyL 5 = some ⟨.int .u8, 1, 1, [.int .u8 0], false⟩ := rfl
theorem look6 : look tyL 6 = some ⟨.int .u8, 1, 1, [.int .u8 0], false⟩ := rfl
theorem look7 : look tyL 7 = some ⟨.struct [(0, 2), (1, 3), (2, 4), (3, 6)], 4, 24, [.int .i64 0, .int .i64 0, .bool false, .int .u8 0], false⟩ := rfl
theorem look8 : look tyL 8 = some ⟨.struct [(0, 2), (1, 3), (2, 4), (3, 6)], 4, 24, [.int .i64 0, .int .i64 0, .bool false, .int .u8 0], false⟩ := rfl
theorem look9 : look tyL 9 = some ⟨.string, 1, 16, [.string .empty], false⟩ := rfl
theorem look10 : look tyL 10 = some ⟨.string, 1, 16, [.string .empty], false⟩ := rfl
theorem look11 : look tyL 11 = some ⟨.string, 1, 16, [.string .empty], false⟩ := rfl
theorem look12 : look tyL 12 = some ⟨.int .u64, 1, 8, [.int .u64 0], false⟩ := rfl
theorem look13 : look tyL 13 = some ⟨.struct [(0, 9), (1, 12)], 2, 24, [.string .empty, .int .u64 0], false⟩ := rfl
theorem look14 : look tyL 14 = some ⟨.struct [(0, 9), (1, 12)], 2, 24, [.string .empty, .int .u64 0], false⟩ := rfl
theorem look15 : look tyL 15 = some ⟨.ptr 139, 1, 8, [.pointer none], false⟩ := rfl
theorem look16 : look tyL 16 = some ⟨.ptr 142, 1, 8, [.pointer none], false⟩ := rfl
theorem look17 : look tyL 17 = some ⟨.ptr 152, 1, 8, [.pointer none], false⟩ := rfl
theorem look18 : look tyL 18 = some ⟨.struct [(0, 17)], 1, 8, [.pointer none], false⟩ := rfl
theorem look19 : look tyL 19 = some ⟨.struct [(0, 17)], 1, 8, [.pointer none], false⟩ := rfl
theorem look20 : look tyL 20 = some ⟨.iface, 1, 16, [.nilIface], false⟩ := rfl
theorem look21 : look tyL 21 = some ⟨.int .i32, 1, 4, [.int .i32 0], false⟩ := rfl
theorem look22 : look tyL 22 = some ⟨.slice 51, 1, 24, [.slice none 0 0], false⟩ := rfl
theorem look23 : look tyL 23 = some ⟨.struct [(0, 22)], 1, 24, [.slice none 0 0], false⟩ := rfl
theorem look24 : look tyL 24 = some ⟨.struct [(0, 22)], 1, 24, [.slice none 0 0], false⟩ := rfl
theorem look25 : look tyL 25 = some ⟨.func, 1, 8, [.nilFunc], false⟩ := rfl
theorem look26 : look tyL 26 = some ⟨.func, 1, 8, [.nilFunc], false⟩ := rfl
theorem look27 : look tyL 27 = some ⟨.slice 55, 1, 24, [.slice none 0 0], false⟩ := rfl
theorem look28 : look tyL 28 = some ⟨.struct [(0, 27)], 1, 24, [.slice none 0 0], false⟩ := rfl
theorem look29 : look tyL 29 = some ⟨.struct [(0, 27)], 1, 24, [.slice none 0 0], false⟩ := rfl
theorem look30 : look tyL 30 = some ⟨.func, 1, 8, [.nilFunc], false⟩ := rfl
theorem look31 : look tyL 31 = some ⟨.func, 1, 8, [.nilFunc], false⟩ := rfl
theorem look32 : look tyL 32 = some ⟨.func, 1, 8, [.nilFunc], false⟩ := rfl
theorem look33 : look tyL 33 = some ⟨.func, 1, 8, [.nilFunc], false⟩ := rfl
theorem look34 : look tyL 34 = some ⟨.func, 1, 8, [.nilFunc], false⟩ := rfl
theorem look35 : look tyL 35 = some ⟨.func, 1, 8, [.nilFunc], false⟩ := rfl
theorem look36 : look tyL 36 = some ⟨.func, 1, 8, [.nilFunc], false⟩ := rfl
theorem look37 : look tyL 37 = some ⟨.slice 3, 1, 24, [.slice none 0 0], false⟩ := rfl
theorem look38 : look tyL 38 = some ⟨.func, 1, 8, [.nilFunc], false⟩ := rfl
theorem look39 : look tyL 39 = some ⟨.func, 1, 8, [.nilFunc], false⟩ := rfl
theorem look40 : look tyL 40 = some ⟨.ptr 45, 1, 8, [.pointer none], false⟩ := rfl
theorem look42 : look tyL 42 = some ⟨.func, 1, 8, [.nilFunc], false⟩ := rfl
theorem look43 : look tyL 43 = some ⟨.func, 1, 8, [.nilFunc], false⟩ := rfl
theorem look44 : look tyL 44 = some ⟨.struct [(0, 37), (1, 37)], 2, 48, [.slice none 0 0, .slice none 0 0], false⟩ := rfl
theorem look45 : look tyL 45 = some ⟨.struct [(0, 37), (1, 37)], 2, 48, [.slice none 0 0, .slice none 0 0], false⟩ := rfl
theorem look46 : look tyL 46 = some ⟨.func, 1, 8, [.nilFunc], false⟩ := rfl
theorem look47 : look tyL 47 = some ⟨.slice 114, 1, 24, [.slice none 0 0], false⟩ := rfl
theorem look48 : look tyL 48 = some ⟨.slice 9, 1, 24, [.slice none 0 0], false⟩ := rfl
theorem look49 : look tyL 49 = some ⟨.slice 119, 1, 24, [.slice none 0 0], false⟩ := rfl
theorem look50 : look tyL 50 = some ⟨.struct [(0, 9), (1, 47), (2, 47), (3, 48), (4, 37), (5, 37), (6, 49)], 7, 160, [.string .empty, .slice none 0 0, .slice none 0 0, .slice none 0 0, .slice none 0 0, .slice none 0 0, .slice none 0 0], false⟩ := rfl
theorem look51 : look tyL 51 = some ⟨.struct [(0, 9), (1, 47), (2, 47), (3, 48), (4, 37), (5, 37), (6, 49)], 7, 160, [.string .empty, .slice none 0 0, .slice none 0 0, .slice none 0 0, .slice none 0 0, .slice none 0 0, .slice none 0 0], false⟩ := rfl
theorem look52 : look tyL 52 = some ⟨.slice 60, 1, 24, [.slice none 0 0], false⟩ := rfl
theorem look53 : look tyL 53 = some ⟨.slice 65, 1, 24, [.slice none 0 0], false⟩ := rfl
theorem look54 : look tyL 54 = some ⟨.struct [(0, 9), (1, 52), (2, 52), (3, 48), (4, 37), (5, 37), (6, 53)], 7, 160, [.string .empty, .slice none 0 0, .slice none 0 0, .slice none 0 0, .slice none 0 0, .slice none 0 0, .slice none 0 0], false⟩ := rfl
theorem look55 : look tyL 55 = some ⟨.struct [(0, 9), (1, 52), (2, 52), (3, 48), (4, 37), (5, 37), (6, 53)], 7, 160, [.string .empty, .slice none 0 0, .slice none 0 0, .slice none 0 0, .slice none 0 0, .slice none 0 0, .slice none 0 0], false⟩ := rfl
theorem look56 : look tyL 56 = some ⟨.func, 1, 8, [.nilFunc], false⟩ := rfl
theorem look57 : look tyL 57 = some ⟨.func, 1, 8, [.nilFunc], false⟩ := rfl
theorem look58 : look tyL 58 = some ⟨.func, 1, 8, [.nilFunc], false⟩ := rfl
theorem look59 : look tyL 59 = some ⟨.struct [(0, 9), (1, 3)], 2, 24, [.string .empty, .int .i64 0], false⟩ := rfl
theorem look60 : look tyL 60 = some ⟨.struct [(0, 9), (1, 3)], 2, 24, [.string .empty, .int .i64 0], true⟩ := rfl
theorem look61 : look tyL 61 = some ⟨.func, 1, 8, [.nilFunc], false⟩ := rfl
theorem look62 : look tyL 62 = some ⟨.slice 101, 1, 24, [.slice none 0 0], false⟩ := rfl
theorem look63 : look tyL 63 = some ⟨.slice 62, 1, 24, [.slice none 0 0], false⟩ := rfl
theorem look64 : look tyL 64 = some ⟨.struct [(0, 3), (1, 9), (2, 3), (3, 48), (4, 62), (5, 63)], 6, 104, [.int .i64 0, .string .empty, .int .i64 0, .slice none 0 0, .slice none 0 0, .slice none 0 0], false⟩ := rfl
theorem look65 : look tyL 65 = some ⟨.struct [(0, 3), (1, 9), (2, 3), (3, 48), (4, 62), (5, 63)], 6, 104, [.int .i64 0, .string .empty, .int .i64 0, .slice none 0 0, .slice none 0 0, .slice none 0 0], false⟩ := rfl
theorem look66 : look tyL 66 = some ⟨.func, 1, 8, [.nilFunc], false⟩ := rfl
theorem look67 : look tyL 67 = some ⟨.func, 1, 8, [.nilFunc], false⟩ := rfl
theorem look69 : look tyL 69 = some ⟨.func, 1, 8, [.nilFunc], false⟩ := rfl
theorem look70 : look tyL 70 = some ⟨.func, 1, 8, [.nilFunc], false⟩ := rfl
theorem look71 : look tyL 71 = some ⟨.func, 1, 8, [.nilFunc], false⟩ := rfl
theorem look72 : look tyL 72 = some ⟨.func, 1, 8, [.nilFunc], false⟩ := rfl
theorem look73 : look tyL 73 = some ⟨.map 9 4, 1, 8, [.map none], false⟩ := rfl
theorem look74 : look tyL 74 = some ⟨.map 9 3, 1, 8, [.map none], false⟩ := rfl
theorem look76 : look tyL 76 = some ⟨.func, 1, 8, [.nilFunc], false⟩ := rfl
theorem look77 : look tyL 77 = some ⟨.slice 52, 1, 24, [.slice none 0 0], false⟩ := rfl
theorem look78 : look tyL 78 = some ⟨.func, 1, 8, [.nilFunc], false⟩ := rfl
theorem look79 : look tyL 79 = some ⟨.func, 1, 8, [.nilFunc], false⟩ := rfl
theorem look80 : look tyL 80 = some ⟨.slice 84, 1, 24, [.slice none 0 0], false⟩ := rfl
theorem look82 : look tyL 82 = some ⟨.func, 1, 8, [.nilFunc], false⟩ := rfl
theorem look83 : look tyL 83 = some ⟨.func, 1, 8, [.nilFunc], false⟩ := rfl
theorem look84 : look tyL 84 = some ⟨.ptr 86, 1, 8, [.pointer none], false⟩ := rfl
theorem look85 : look tyL 85 = some ⟨.struct [(0, 65), (6, 80), (7, 80)], 8, 152, [.int .i64 0, .string .empty, .int .i64 0, .slice none 0 0, .slice none 0 0, .slice none 0 0, .slice none 0 0, .slice none 0 0], false⟩ := rfl
theorem look86 : look tyL 86 = some ⟨.struct [(0, 65), (6, 80), (7, 80)], 8, 152, [.int .i64 0, .string .empty, .int .i64 0, .slice none 0 0, .slice none 0 0, .slice none 0 0, .slice none 0 0, .slice none 0 0], false⟩ := rfl
theorem look87 : look tyL 87 = some ⟨.func, 1, 8, [.nilFunc], false⟩ := rfl
theorem look88 : look tyL 88 = some ⟨.func, 1, 8, [.nilFunc], false⟩ := rfl
theorem look89 : look tyL 89 = some ⟨.func, 1, 8, [.nilFunc], false⟩ := rfl
theorem look90 : look tyL 90 = some ⟨.func, 1, 8, [.nilFunc], false⟩ := rfl
theorem look91 : look tyL 91 = some ⟨.func, 1, 8, [.nilFunc], false⟩ := rfl
theorem look92 : look tyL 92 = some ⟨.func, 1, 8, [.nilFunc], false⟩ := rfl
theorem look93 : look tyL 93 = some ⟨.func, 1, 8, [.nilFunc], false⟩ := rfl
theorem look94 : look tyL 94 = some ⟨.func, 1, 8, [.nilFunc], false⟩ := rfl
theorem look95 : look tyL 95 = some ⟨.func, 1, 8, [.nilFunc], false⟩ := rfl
theorem look96 : look tyL 96 = some ⟨.func, 1, 8, [.nilFunc], false⟩ := rfl
theorem look97 : look tyL 97 = some ⟨.func, 1, 8, [.nilFunc], false⟩ := rfl
theorem look98 : look tyL 98 = some ⟨.func, 1, 8, [.nilFunc], false⟩ := rfl
theorem look99 : look tyL 99 = some ⟨.func, 1, 8, [.nilFunc], false⟩ := rfl
theorem look100 : look tyL 100 = some ⟨.struct [(0, 3), (1, 3), (2, 9)], 3, 32, [.int .i64 0, .int .i64 0, .string .empty], false⟩ := rfl
theorem look101 : look tyL 101 = some ⟨.struct [(0, 3), (1, 3), (2, 9)], 3, 32, [.int .i64 0, .int .i64 0, .string .empty], true⟩ := rfl
theorem look102 : look tyL 102 = some ⟨.func, 1, 8, [.nilFunc], false⟩ := rfl
theorem look103 : look tyL 103 = some ⟨.func, 1, 8, [.nilFunc], false⟩ := rfl
theorem look104 : look tyL 104 = some ⟨.slice 105, 1, 24, [.slice none 0 0], false⟩ := rfl
theorem look105 : look tyL 105 = some ⟨.ptr 107, 1, 8, [.pointer none], false⟩ := rfl
theorem look106 : look tyL 106 = some ⟨.struct [(0, 84), (1, 4)], 2, 16, [.pointer none, .bool false], false⟩ := rfl
theorem look107 : look tyL 107 = some ⟨.struct [(0, 84), (1, 4)], 2, 16, [.pointer none, .bool false], false⟩ := rfl
theorem look108 : look tyL 108 = some ⟨.func, 1, 8, [.nilFunc], false⟩ := rfl
theorem look109 : look tyL 109 = some ⟨.func, 1, 8, [.nilFunc], false⟩ := rfl
theorem look110 : look tyL 110 = some ⟨.func, 1, 8, [.nilFunc], false⟩ := rfl
theorem look111 : look tyL 111 = some ⟨.func, 1, 8, [.nilFunc], false⟩ := rfl
theorem look112 : look tyL 112 = some ⟨.func, 1, 8, [.nilFunc], false⟩ := rfl
theorem look113 : look tyL 113 = some ⟨.func, 1, 8, [.nilFunc], false⟩ := rfl
theorem look114 : look tyL 114 = some ⟨.struct [(0, 9), (1, 3)], 2, 24, [.string .empty, .int .i64 0], false⟩ := rfl
theorem look115 : look tyL 115 = some ⟨.func, 1, 8, [.nilFunc], false⟩ := rfl
theorem look116 : look tyL 116 = some ⟨.slice 134, 1, 24, [.slice none 0 0], false⟩ := rfl
theorem look117 : look tyL 117 = some ⟨.slice 116, 1, 24, [.slice none 0 0], false⟩ := rfl
theorem look118 : look tyL 118 = some ⟨.struct [(0, 3), (1, 9), (2, 3), (3, 48), (4, 116), (5, 117)], 6, 104, [.int .i64 0, .string .empty, .int .i64 0, .slice none 0 0, .slice none 0 0, .slice none 0 0], false⟩ := rfl
theorem look119 : look tyL 119 = some ⟨.struct [(0, 3), (1, 9), (2, 3), (3, 48), (4, 116), (5, 117)], 6, 104, [.int .i64 0, .string .empty, .int .i64 0, .slice none 0 0, .slice none 0 0, .slice none 0 0], false⟩ := rfl
theorem look120 : look tyL 120 = some ⟨.func, 1, 8, [.nilFunc], false⟩ := rfl
theorem look121 : look tyL 121 = some ⟨.func, 1, 8, [.nilFunc], false⟩ := rfl
theorem look122 : look tyL 122 = some ⟨.func, 1, 8, [.nilFunc], false⟩ := rfl
theorem look123 : look tyL 123 = some ⟨.func, 1, 8, [.nilFunc], false⟩ := rfl
theorem look124 : look tyL 124 = some ⟨.func, 1, 8, [.nilFunc], false⟩ := rfl
theorem look125 : look tyL 125 = some ⟨.func, 1, 8, [.nilFunc], false⟩ := rfl
theorem look126 : look tyL 126 = some ⟨.func, 1, 8, [.nilFunc], false⟩ := rfl
theorem look127 : look tyL 127 = some ⟨.func, 1, 8, [.nilFunc], false⟩ := rfl
theorem look128 : look tyL 128 = some ⟨.func, 1, 8, [.nilFunc], false⟩ := rfl
theorem look129 : look tyL 129 = some ⟨.func, 1, 8, [.nilFunc], false⟩ := rfl
theorem look130 : look tyL 130 = some ⟨.func, 1, 8, [.nilFunc], false⟩ := rfl
theorem look131 : look tyL 131 = some ⟨.func, 1, 8, [.nilFunc], false⟩ := rfl
theorem look132 : look tyL 132 = some ⟨.func, 1, 8, [.nilFunc], false⟩ := rfl
theorem look133 : look tyL 133 = some ⟨.func, 1, 8, [.nilFunc], false⟩ := rfl
theorem look134 : look tyL 134 = some ⟨.struct [(0, 3), (1, 3), (2, 9)], 3, 32, [.int .i64 0, .int .i64 0, .string .empty], false⟩ := rfl
theorem look135 : look tyL 135 = some ⟨.func, 1, 8, [.nilFunc], false⟩ := rfl
theorem look136 : look tyL 136 = some ⟨.func, 1, 8, [.nilFunc], false⟩ := rfl
theorem look137 : look tyL 137 = some ⟨.func, 1, 8, [.nilFunc], false⟩ := rfl
theorem look138 : look tyL 138 = some ⟨.struct [(0, 17), (1, 17), (2, 17), (3, 9)], 4, 40, [.pointer none, .pointer none, .pointer none, .string .empty], false⟩ := rfl
theorem look139 : look tyL 139 = some ⟨.struct [(0, 17), (1, 17), (2, 17), (3, 9)], 4, 40, [.pointer none, .pointer none, .pointer none, .string .empty], false⟩ := rfl
theorem look143 : look tyL 143 = some ⟨.func, 1, 8, [.nilFunc], false⟩ := rfl
theorem look144 : look tyL 144 = some ⟨.int .u32, 1, 4, [.int .u32 0], false⟩ := rfl
theorem look145 : look tyL 145 = some ⟨.int .u8, 1, 1, [.int .u8 0], false⟩ := rfl
theorem look146 : look tyL 146 = some ⟨.int .u8, 1, 1, [.int .u8 0], false⟩ := rfl
theorem look147 : look tyL 147 = some ⟨.func, 1, 8, [.nilFunc], false⟩ := rfl
theorem look148 : look tyL 148 = some ⟨.ptr 5, 1, 8, [.pointer none], false⟩ := rfl
theorem look149 : look tyL 149 = some ⟨.int .i32, 1, 4, [.int .i32 0], false⟩ := rfl
theorem look150 : look tyL 150 = some ⟨.int .i32, 1, 4, [.int .i32 0], false⟩ := rfl
theorem look151 : look tyL 151 = some ⟨.struct [(0, 12), (1, 12), (2, 144), (3, 145), (4, 5), (5, 5), (6, 146), (7, 147), (8, 148), (9, 149), (10, 150)], 11, 48, [.int .u64 0, .int .u64 0, .int .u32 0, .int .u8 0, .int .u8 0, .int .u8 0, .int .u8 0, .nilFunc, .pointer none, .int .i32 0, .int .i32 0], false⟩ := rfl
theorem look152 : look tyL 152 = some ⟨.struct [(0, 12), (1, 12), (2, 144), (3, 145), (4, 5), (5, 5), (6, 146), (7, 147), (8, 148), (9, 149), (10, 150)], 11, 48, [.int .u64 0, .int .u64 0, .int .u32 0, .int .u8 0, .int .u8 0, .int .u8 0, .int .u8 0, .nilFunc, .pointer none, .int .i32 0, .int .i32 0], false⟩ := rfl
end Go.Pm
/- The program of this seat for the abstract machine, with what its package-level variables hold. -/
set_option linter.unusedVariables false
namespace Go.Pm
def kwBytes : List (List UInt8) := [[97, 110, 100], [98, 111, 111, 108], [101, 108, 115, 101], [102, 97, 108, 115, 101], [102, 98, 121], [105, 102], [105, 110, 116], [108, 101, 116], [109, 101, 114, 103, 101], [109, 111, 100], [110, 111, 100, 101], [110, 111, 116], [111, 114], [114, 101, 116, 117, 114, 110, 115], [116, 101, 108], [116, 104, 101, 110], [116, 114, 117, 101], [118, 97, 114], [119, 104, 101, 110], [119, 104, 101, 110, 111, 116], [120, 111, 114]]
def kwS : List ByteArray := kwBytes.map fun l => ⟨l.toArray⟩
def gl (g : Nat) : Option (List D) := if g = 0 then some [.mp .string (wordMap kwS)] else none
noncomputable def X : Cfg := mkCfg Go.Proofs.Tryd.prog gl tyL tyL_ok
theorem X_mixed : X.P.follows .mixedOrders = true := by kernel_rfl
@[simp] theorem X_T (t : TypeId) : X.T t = look tyL t := rfl
@[simp] theorem X_G (g : Nat) : X.G g = gl g := rfl
end Go.Pm
