/- The table of the types of this translation, as the abstract machine looks at them (printed by wip/gen_types.py), and that it fits the program. -/
import Derived.Test.YtghgkmifoiokjaaDoorProg
import Derived.Test.YtghgkmifoiokjaaDoorPm10
set_option linter.unusedVariables false
namespace Go.Pm
def tyL : List (Option TI) := [
  none,
  some ⟨.func, 1, 8, [.nilFunc], false⟩,
  some ⟨.int .i64, 1, 8, [.int .i64 0], false⟩,
  some ⟨.int .i64, 1, 8, [.int .i64 0], false⟩,
  some ⟨.bool, 1, 1, [.bool false], false⟩,
  some ⟨.int .u8, 1, 1, [.int .u8 0], false⟩,
  some ⟨.int .u8, 1, 1, [.int .u8 0], false⟩,
  some ⟨.struct [(0, 2), (1, 3), (2, 4), (3, 6)], 4, 24, [.int .i64 0, .int .i64 0, .bool false, .int .u8 0], false⟩,
  some ⟨.struct [(0, 2), (1, 3), (2, 4), (3, 6)], 4, 24, [.int .i64 0, .int .i64 0, .bool false, .int .u8 0], false⟩,
  some ⟨.string, 1, 16, [.string .empty], false⟩,
  some ⟨.string, 1, 16, [.string .empty], false⟩,
  some ⟨.string, 1, 16, [.string .empty], false⟩,
  some ⟨.int .u64, 1, 8, [.int .u64 0], false⟩,
  some ⟨.struct [(0, 9), (1, 12)], 2, 24, [.string .empty, .int .u64 0], false⟩,
  some ⟨.struct [(0, 9), (1, 12)], 2, 24, [.string .empty, .int .u64 0], false⟩,
  some ⟨.ptr 123, 1, 8, [.pointer none], false⟩,
  some ⟨.ptr 126, 1, 8, [.pointer none], false⟩,
  some ⟨.ptr 136, 1, 8, [.pointer none], false⟩,
  some ⟨.struct [(0, 17)], 1, 8, [.pointer none], false⟩,
  some ⟨.struct [(0, 17)], 1, 8, [.pointer none], false⟩,
  some ⟨.iface, 1, 16, [.nilIface], false⟩,
  some ⟨.int .i32, 1, 4, [.int .i32 0], false⟩,
  some ⟨.slice 63, 1, 24, [.slice none 0 0], false⟩,
  some ⟨.struct [(0, 22)], 1, 24, [.slice none 0 0], false⟩,
  some ⟨.struct [(0, 22)], 1, 24, [.slice none 0 0], false⟩,
  some ⟨.func, 1, 8, [.nilFunc], false⟩,
  some ⟨.func, 1, 8, [.nilFunc], false⟩,
  some ⟨.slice 39, 1, 24, [.slice none 0 0], false⟩,
  some ⟨.struct [(0, 27)], 1, 24, [.slice none 0 0], false⟩,
  some ⟨.struct [(0, 27)], 1, 24, [.slice none 0 0], false⟩,
  some ⟨.func, 1, 8, [.nilFunc], false⟩,
  some ⟨.func, 1, 8, [.nilFunc], false⟩,
  some ⟨.func, 1, 8, [.nilFunc], false⟩,
  some ⟨.func, 1, 8, [.nilFunc], false⟩,
  some ⟨.func, 1, 8, [.nilFunc], false⟩,
  some ⟨.func, 1, 8, [.nilFunc], false⟩,
  some ⟨.slice 44, 1, 24, [.slice none 0 0], false⟩,
  some ⟨.slice 51, 1, 24, [.slice none 0 0], false⟩,
  some ⟨.struct [(0, 9), (1, 36), (2, 36), (3, 36), (4, 37)], 5, 112, [.string .empty, .slice none 0 0, .slice none 0 0, .slice none 0 0, .slice none 0 0], false⟩,
  some ⟨.struct [(0, 9), (1, 36), (2, 36), (3, 36), (4, 37)], 5, 112, [.string .empty, .slice none 0 0, .slice none 0 0, .slice none 0 0, .slice none 0 0], false⟩,
  some ⟨.func, 1, 8, [.nilFunc], false⟩,
  some ⟨.func, 1, 8, [.nilFunc], false⟩,
  some ⟨.slice 46, 1, 24, [.slice none 0 0], false⟩,
  some ⟨.struct [(0, 9), (1, 3), (2, 42)], 3, 48, [.string .empty, .int .i64 0, .slice none 0 0], false⟩,
  some ⟨.struct [(0, 9), (1, 3), (2, 42)], 3, 48, [.string .empty, .int .i64 0, .slice none 0 0], false⟩,
  some ⟨.struct [(0, 9), (1, 4)], 2, 24, [.string .empty, .bool false], false⟩,
  some ⟨.struct [(0, 9), (1, 4)], 2, 24, [.string .empty, .bool false], true⟩,
  some ⟨.slice 9, 1, 24, [.slice none 0 0], false⟩,
  some ⟨.slice 66, 1, 24, [.slice none 0 0], false⟩,
  some ⟨.slice 48, 1, 24, [.slice none 0 0], false⟩,
  some ⟨.struct [(0, 47), (1, 48), (2, 9), (3, 49)], 4, 88, [.slice none 0 0, .slice none 0 0, .string .empty, .slice none 0 0], false⟩,
  some ⟨.struct [(0, 47), (1, 48), (2, 9), (3, 49)], 4, 88, [.slice none 0 0, .slice none 0 0, .string .empty, .slice none 0 0], false⟩,
  some ⟨.func, 1, 8, [.nilFunc], false⟩,
  some ⟨.func, 1, 8, [.nilFunc], false⟩,
  some ⟨.slice 36, 1, 24, [.slice none 0 0], false⟩,
  some ⟨.func, 1, 8, [.nilFunc], false⟩,
  some ⟨.func, 1, 8, [.nilFunc], false⟩,
  some ⟨.slice 3, 1, 24, [.slice none 0 0], false⟩,
  some ⟨.func, 1, 8, [.nilFunc], false⟩,
  some ⟨.func, 1, 8, [.nilFunc], false⟩,
  some ⟨.slice 91, 1, 24, [.slice none 0 0], false⟩,
  some ⟨.slice 96, 1, 24, [.slice none 0 0], false⟩,
  some ⟨.struct [(0, 9), (1, 60), (2, 60), (3, 60), (4, 61)], 5, 112, [.string .empty, .slice none 0 0, .slice none 0 0, .slice none 0 0, .slice none 0 0], false⟩,
  some ⟨.struct [(0, 9), (1, 60), (2, 60), (3, 60), (4, 61)], 5, 112, [.string .empty, .slice none 0 0, .slice none 0 0, .slice none 0 0, .slice none 0 0], false⟩,
  some ⟨.func, 1, 8, [.nilFunc], false⟩,
  some ⟨.struct [(0, 3), (1, 3), (2, 9)], 3, 32, [.int .i64 0, .int .i64 0, .string .empty], false⟩,
  some ⟨.struct [(0, 3), (1, 3), (2, 9)], 3, 32, [.int .i64 0, .int .i64 0, .string .empty], true⟩,
  some ⟨.func, 1, 8, [.nilFunc], false⟩,
  some ⟨.func, 1, 8, [.nilFunc], false⟩,
  some ⟨.map 9 4, 1, 8, [.map none], false⟩,
  some ⟨.func, 1, 8, [.nilFunc], false⟩,
  some ⟨.func, 1, 8, [.nilFunc], false⟩,
  some ⟨.func, 1, 8, [.nilFunc], false⟩,
  some ⟨.func, 1, 8, [.nilFunc], false⟩,
  some ⟨.func, 1, 8, [.nilFunc], false⟩,
  some ⟨.map 9 3, 1, 8, [.map none], false⟩,
  none,
  some ⟨.func, 1, 8, [.nilFunc], false⟩,
  some ⟨.func, 1, 8, [.nilFunc], false⟩,
  some ⟨.func, 1, 8, [.nilFunc], false⟩,
  some ⟨.func, 1, 8, [.nilFunc], false⟩,
  some ⟨.func, 1, 8, [.nilFunc], false⟩,
  some ⟨.func, 1, 8, [.nilFunc], false⟩,
  some ⟨.func, 1, 8, [.nilFunc], false⟩,
  some ⟨.func, 1, 8, [.nilFunc], false⟩,
  some ⟨.func, 1, 8, [.nilFunc], false⟩,
  some ⟨.func, 1, 8, [.nilFunc], false⟩,
  some ⟨.func, 1, 8, [.nilFunc], false⟩,
  some ⟨.func, 1, 8, [.nilFunc], false⟩,
  some ⟨.slice 114, 1, 24, [.slice none 0 0], false⟩,
  some ⟨.struct [(0, 9), (1, 3), (2, 89)], 3, 48, [.string .empty, .int .i64 0, .slice none 0 0], false⟩,
  some ⟨.struct [(0, 9), (1, 3), (2, 89)], 3, 48, [.string .empty, .int .i64 0, .slice none 0 0], false⟩,
  some ⟨.func, 1, 8, [.nilFunc], false⟩,
  some ⟨.slice 116, 1, 24, [.slice none 0 0], false⟩,
  some ⟨.slice 93, 1, 24, [.slice none 0 0], false⟩,
  some ⟨.struct [(0, 47), (1, 93), (2, 9), (3, 94)], 4, 88, [.slice none 0 0, .slice none 0 0, .string .empty, .slice none 0 0], false⟩,
  some ⟨.struct [(0, 47), (1, 93), (2, 9), (3, 94)], 4, 88, [.slice none 0 0, .slice none 0 0, .string .empty, .slice none 0 0], false⟩,
  some ⟨.func, 1, 8, [.nilFunc], false⟩,
  some ⟨.func, 1, 8, [.nilFunc], false⟩,
  some ⟨.func, 1, 8, [.nilFunc], false⟩,
  some ⟨.func, 1, 8, [.nilFunc], false⟩,
  some ⟨.func, 1, 8, [.nilFunc], false⟩,
  some ⟨.func, 1, 8, [.nilFunc], false⟩,
  some ⟨.func, 1, 8, [.nilFunc], false⟩,
  some ⟨.func, 1, 8, [.nilFunc], false⟩,
  some ⟨.func, 1, 8, [.nilFunc], false⟩,
  some ⟨.func, 1, 8, [.nilFunc], false⟩,
  some ⟨.func, 1, 8, [.nilFunc], false⟩,
  some ⟨.func, 1, 8, [.nilFunc], false⟩,
  some ⟨.func, 1, 8, [.nilFunc], false⟩,
  some ⟨.func, 1, 8, [.nilFunc], false⟩,
  some ⟨.func, 1, 8, [.nilFunc], false⟩,
  some ⟨.func, 1, 8, [.nilFunc], false⟩,
  some ⟨.func, 1, 8, [.nilFunc], false⟩,
  some ⟨.struct [(0, 9), (1, 4)], 2, 24, [.string .empty, .bool false], false⟩,
  some ⟨.func, 1, 8, [.nilFunc], false⟩,
  some ⟨.struct [(0, 3), (1, 3), (2, 9)], 3, 32, [.int .i64 0, .int .i64 0, .string .empty], false⟩,
  some ⟨.func, 1, 8, [.nilFunc], false⟩,
  some ⟨.func, 1, 8, [.nilFunc], false⟩,
  some ⟨.func, 1, 8, [.nilFunc], false⟩,
  some ⟨.func, 1, 8, [.nilFunc], false⟩,
  some ⟨.func, 1, 8, [.nilFunc], false⟩,
  some ⟨.struct [(0, 17), (1, 17), (2, 17), (3, 9)], 4, 40, [.pointer none, .pointer none, .pointer none, .string .empty], false⟩,
  some ⟨.struct [(0, 17), (1, 17), (2, 17), (3, 9)], 4, 40, [.pointer none, .pointer none, .pointer none, .string .empty], false⟩,
  none,
  none,
  none,
  some ⟨.func, 1, 8, [.nilFunc], false⟩,
  some ⟨.int .u32, 1, 4, [.int .u32 0], false⟩,
  some ⟨.int .u8, 1, 1, [.int .u8 0], false⟩,
  some ⟨.int .u8, 1, 1, [.int .u8 0], false⟩,
  some ⟨.func, 1, 8, [.nilFunc], false⟩,
  some ⟨.ptr 5, 1, 8, [.pointer none], false⟩,
  some ⟨.int .i32, 1, 4, [.int .i32 0], false⟩,
  some ⟨.int .i32, 1, 4, [.int .i32 0], false⟩,
  some ⟨.struct [(0, 12), (1, 12), (2, 128), (3, 129), (4, 5), (5, 5), (6, 130), (7, 131), (8, 132), (9, 133), (10, 134)], 11, 48, [.int .u64 0, .int .u64 0, .int .u32 0, .int .u8 0, .int .u8 0, .int .u8 0, .int .u8 0, .nilFunc, .pointer none, .int .i32 0, .int .i32 0], false⟩,
  some ⟨.struct [(0, 12), (1, 12), (2, 128), (3, 129), (4, 5), (5, 5), (6, 130), (7, 131), (8, 132), (9, 133), (10, 134)], 11, 48, [.int .u64 0, .int .u64 0, .int .u32 0, .int .u8 0, .int .u8 0, .int .u8 0, .int .u8 0, .nilFunc, .pointer none, .int .i32 0, .int .i32 0], false⟩,
  none]
set_option maxRecDepth 100000 in
theorem tyL_ok : checkAll Go.Proofs.Tryd.prog tyL tyL 0 = true := by kernel_rfl
-- types: 1=func() 2=int64 3=int 4=bool 5=uint8 6=abi.BoundsErrorCode 8=runtime.boundsError 9=string 10=runtime.errorString 11=runtime.plainError 12=uintptr 13=struct_{_msg_string;_addr_uintptr_} 14=runtime.errorAddressString 15=RuntimeError 16=RuntimeError 17=Align 18=struct_{_typ_*abi.Type_} 19=maps.unhashableTypeError 20=interface_{} 21=int32 22=[]laws.Node 23=struct_{_Nodes_[]laws.Node_} 24=laws.Program 25=func(laws.Program,_int)_int 26=func(impl.Program)_bool 27=[]impl.Node 28=struct_{_Nodes_[]impl.Node_} 29=impl.Program 30=func(laws.Program)_impl.Program 31=func(impl.Program,_impl.Program)_bool 32=func(laws.Program)_bool 33=func(impl.Program,_int)_int 34=func(laws.Program,_int)_bool 35=func([]laws.Node,_int)_int 36=[]impl.Var 37=[]impl.Equation 39=impl.Node 40=func(impl.Node)_[]impl.Var 41=func(string)_bool 42=[]impl.Cond 43=struct_{_Name_string;_Type_int;_Clock_[]impl.Cond_} 44=impl.Var 45=struct_{_Name_string;_On_bool_} 46=impl.Cond 47=[]string 48=[]impl.Item 49=[][]impl.Item 51=impl.Equation 52=func(impl.Equation)_bool 53=func([]laws.Node)_[]impl.Node 54=[][]impl.Var 55=func([]impl.Item)_bool 56=func([]impl.Node,_[]impl.Node)_bool 57=[]int 58=func(impl.Program)_[]int 59=func(laws.Node,_int)_int 60=[]laws.Var 61=[]laws.Equation 63=laws.Node 64=func([]impl.Item,_int)_bool 65=struct_{_Op_int;_Val_int;_Name_string_} 66=impl.Item 67=func(laws.Node)_impl.Node 68=func(uint8)_bool 69=map[string]bool 70=func(impl.Item)_bool 71=func(impl.Node,_impl.Node)_bool 72=func(impl.Equation)_int 73=func(impl.Equation)_[][]impl.Item 74=func(impl.Program,_int,_string)_int 75=map[string]int 77=func([]laws.Var,_int)_int 78=func([]laws.Equation,_int)_int 79=func([]string,_string)_bool 80=func()_[]string 81=func([]impl.Item,_int)_int 82=func([]laws.Var)_[]impl.Var 83=func([]laws.Equation)_[]impl.Equation 84=func(int)_int 85=func([]impl.Var,_[]impl.Var)_bool 86=func([]impl.Equation,_[]impl.Equation)_bool 87=func(int)_bool 88=func(laws.Var,_int)_int 89=[]laws.Cond 90=struct_{_Name_string;_Type_int;_Clock_[]laws.Cond_} 91=laws.Var 92=func(laws.Equation,_int)_int 93=[]laws.Item 94=[][]laws.Item 96=laws.Equation 97=func(laws.Var)_impl.Var 98=func(laws.Equation)_impl.Equation 99=func(impl.Var,_impl.Var)_bool 100=func(impl.Equation,_impl.Equation)_bool 101=func([]laws.Cond,_int)_int 102=func([]string,_int)_int 103=func([]laws.Item,_int)_int 104=func([][]laws.Item,_int)_int 105=func([]laws.Cond)_[]impl.Cond 106=func([]string)_[]string 107=func([]laws.Item)_[]impl.Item 108=func([][]laws.Item)_[][]impl.Item 109=func([]impl.Cond,_[]impl.Cond)_bool 110=func([]string,_[]string)_bool 111=func([]impl.Item,_[]impl.Item)_bool 112=func([][]impl.Item,_[][]impl.Item)_bool 113=func(laws.Cond,_int)_int 114=laws.Cond 115=func(laws.Item,_int)_int 116=laws.Item 117=func(laws.Cond)_impl.Cond 118=func(laws.Item)_impl.Item 119=func(impl.Cond,_impl.Cond)_bool 120=func(impl.Item,_impl.Item)_bool 121=func()_string 123=runtime.TypeAssertionError 127=func()_int 128=uint32 129=abi.TFlag 130=abi.Kind 131=func(unsafe.Pointer,_unsafe.Pointer)_bool 132=*uint8 133=abi.NameOff 134=abi.TypeOff 136=abi.Type
theorem look1 : look tyL 1 = some ⟨.func, 1, 8, [.nilFunc], false⟩ := rfl
theorem look2 : look tyL 2 = some ⟨.int .i64, 1, 8, [.int .i64 0], false⟩ := rfl
theorem look3 : look tyL 3 = some ⟨.int .i64, 1, 8, [.int .i64 0], false⟩ := rfl
theorem look4 : look tyL 4 = some ⟨.bool, 1, 1, [.bool false], false⟩ := rfl
theorem look5 : look tyL 5 = some ⟨.int .u8, 1, 1, [.int .u8 0], false⟩ := rfl
theorem look6 : look tyL 6 = some ⟨.int .u8, 1, 1, [.int .u8 0], false⟩ := rfl
theorem look7 : look tyL 7 = some ⟨.struct [(0, 2), (1, 3), (2, 4), (3, 6)], 4, 24, [.int .i64 0, .int .i64 0, .bool false, .int .u8 0], false⟩ := rfl
theorem look8 : look tyL 8 = some ⟨.struct [(0, 2), (1, 3), (2, 4), (3, 6)], 4, 24, [.int .i64 0, .int .i64 0, .bool false, .int .u8 0], false⟩ := rfl
theorem look9 : look tyL 9 = some ⟨.string, 1, 16, [.string .empty], false⟩ := rfl
theorem look10 : look tyL 10 = some ⟨.string, 1, 16, [.string .empty], false⟩ := rfl
theorem look11 : look tyL 11 = some ⟨.string, 1, 16, [.string .empty], false⟩ := rfl
theorem look12 : look tyL 12 = some ⟨.int .u64, 1, 8, [.int .u64 0], false⟩ := rfl
theorem look13 : look tyL 13 = some ⟨.struct [(0, 9), (1, 12)], 2, 24, [.string .empty, .int .u64 0], false⟩ := rfl
theorem look14 : look tyL 14 = some ⟨.struct [(0, 9), (1, 12)], 2, 24, [.string .empty, .int .u64 0], false⟩ := rfl
theorem look15 : look tyL 15 = some ⟨.ptr 123, 1, 8, [.pointer none], false⟩ := rfl
theorem look16 : look tyL 16 = some ⟨.ptr 126, 1, 8, [.pointer none], false⟩ := rfl
theorem look17 : look tyL 17 = some ⟨.ptr 136, 1, 8, [.pointer none], false⟩ := rfl
theorem look18 : look tyL 18 = some ⟨.struct [(0, 17)], 1, 8, [.pointer none], false⟩ := rfl
theorem look19 : look tyL 19 = some ⟨.struct [(0, 17)], 1, 8, [.pointer none], false⟩ := rfl
theorem look20 : look tyL 20 = some ⟨.iface, 1, 16, [.nilIface], false⟩ := rfl
theorem look21 : look tyL 21 = some ⟨.int .i32, 1, 4, [.int .i32 0], false⟩ := rfl
theorem look22 : look tyL 22 = some ⟨.slice 63, 1, 24, [.slice none 0 0], false⟩ := rfl
theorem look23 : look tyL 23 = some ⟨.struct [(0, 22)], 1, 24, [.slice none 0 0], false⟩ := rfl
theorem look24 : look tyL 24 = some ⟨.struct [(0, 22)], 1, 24, [.slice none 0 0], false⟩ := rfl
theorem look25 : look tyL 25 = some ⟨.func, 1, 8, [.nilFunc], false⟩ := rfl
theorem look26 : look tyL 26 = some ⟨.func, 1, 8, [.nilFunc], false⟩ := rfl
theorem look27 : look tyL 27 = some ⟨.slice 39, 1, 24, [.slice none 0 0], false⟩ := rfl
theorem look28 : look tyL 28 = some ⟨.struct [(0, 27)], 1, 24, [.slice none 0 0], false⟩ := rfl
theorem look29 : look tyL 29 = some ⟨.struct [(0, 27)], 1, 24, [.slice none 0 0], false⟩ := rfl
theorem look30 : look tyL 30 = some ⟨.func, 1, 8, [.nilFunc], false⟩ := rfl
theorem look31 : look tyL 31 = some ⟨.func, 1, 8, [.nilFunc], false⟩ := rfl
theorem look32 : look tyL 32 = some ⟨.func, 1, 8, [.nilFunc], false⟩ := rfl
theorem look33 : look tyL 33 = some ⟨.func, 1, 8, [.nilFunc], false⟩ := rfl
theorem look34 : look tyL 34 = some ⟨.func, 1, 8, [.nilFunc], false⟩ := rfl
theorem look35 : look tyL 35 = some ⟨.func, 1, 8, [.nilFunc], false⟩ := rfl
theorem look36 : look tyL 36 = some ⟨.slice 44, 1, 24, [.slice none 0 0], false⟩ := rfl
theorem look37 : look tyL 37 = some ⟨.slice 51, 1, 24, [.slice none 0 0], false⟩ := rfl
theorem look38 : look tyL 38 = some ⟨.struct [(0, 9), (1, 36), (2, 36), (3, 36), (4, 37)], 5, 112, [.string .empty, .slice none 0 0, .slice none 0 0, .slice none 0 0, .slice none 0 0], false⟩ := rfl
theorem look39 : look tyL 39 = some ⟨.struct [(0, 9), (1, 36), (2, 36), (3, 36), (4, 37)], 5, 112, [.string .empty, .slice none 0 0, .slice none 0 0, .slice none 0 0, .slice none 0 0], false⟩ := rfl
theorem look40 : look tyL 40 = some ⟨.func, 1, 8, [.nilFunc], false⟩ := rfl
theorem look41 : look tyL 41 = some ⟨.func, 1, 8, [.nilFunc], false⟩ := rfl
theorem look42 : look tyL 42 = some ⟨.slice 46, 1, 24, [.slice none 0 0], false⟩ := rfl
theorem look43 : look tyL 43 = some ⟨.struct [(0, 9), (1, 3), (2, 42)], 3, 48, [.string .empty, .int .i64 0, .slice none 0 0], false⟩ := rfl
theorem look44 : look tyL 44 = some ⟨.struct [(0, 9), (1, 3), (2, 42)], 3, 48, [.string .empty, .int .i64 0, .slice none 0 0], false⟩ := rfl
theorem look45 : look tyL 45 = some ⟨.struct [(0, 9), (1, 4)], 2, 24, [.string .empty, .bool false], false⟩ := rfl
theorem look46 : look tyL 46 = some ⟨.struct [(0, 9), (1, 4)], 2, 24, [.string .empty, .bool false], true⟩ := rfl
theorem look47 : look tyL 47 = some ⟨.slice 9, 1, 24, [.slice none 0 0], false⟩ := rfl
theorem look48 : look tyL 48 = some ⟨.slice 66, 1, 24, [.slice none 0 0], false⟩ := rfl
theorem look49 : look tyL 49 = some ⟨.slice 48, 1, 24, [.slice none 0 0], false⟩ := rfl
theorem look50 : look tyL 50 = some ⟨.struct [(0, 47), (1, 48), (2, 9), (3, 49)], 4, 88, [.slice none 0 0, .slice none 0 0, .string .empty, .slice none 0 0], false⟩ := rfl
theorem look51 : look tyL 51 = some ⟨.struct [(0, 47), (1, 48), (2, 9), (3, 49)], 4, 88, [.slice none 0 0, .slice none 0 0, .string .empty, .slice none 0 0], false⟩ := rfl
theorem look52 : look tyL 52 = some ⟨.func, 1, 8, [.nilFunc], false⟩ := rfl
theorem look53 : look tyL 53 = some ⟨.func, 1, 8, [.nilFunc], false⟩ := rfl
theorem look54 : look tyL 54 = some ⟨.slice 36, 1, 24, [.slice none 0 0], false⟩ := rfl
theorem look55 : look tyL 55 = some ⟨.func, 1, 8, [.nilFunc], false⟩ := rfl
theorem look56 : look tyL 56 = some ⟨.func, 1, 8, [.nilFunc], false⟩ := rfl
theorem look57 : look tyL 57 = some ⟨.slice 3, 1, 24, [.slice none 0 0], false⟩ := rfl
theorem look58 : look tyL 58 = some ⟨.func, 1, 8, [.nilFunc], false⟩ := rfl
theorem look59 : look tyL 59 = some ⟨.func, 1, 8, [.nilFunc], false⟩ := rfl
theorem look60 : look tyL 60 = some ⟨.slice 91, 1, 24, [.slice none 0 0], false⟩ := rfl
theorem look61 : look tyL 61 = some ⟨.slice 96, 1, 24, [.slice none 0 0], false⟩ := rfl
theorem look62 : look tyL 62 = some ⟨.struct [(0, 9), (1, 60), (2, 60), (3, 60), (4, 61)], 5, 112, [.string .empty, .slice none 0 0, .slice none 0 0, .slice none 0 0, .slice none 0 0], false⟩ := rfl
theorem look63 : look tyL 63 = some ⟨.struct [(0, 9), (1, 60), (2, 60), (3, 60), (4, 61)], 5, 112, [.string .empty, .slice none 0 0, .slice none 0 0, .slice none 0 0, .slice none 0 0], false⟩ := rfl
theorem look64 : look tyL 64 = some ⟨.func, 1, 8, [.nilFunc], false⟩ := rfl
theorem look65 : look tyL 65 = some ⟨.struct [(0, 3), (1, 3), (2, 9)], 3, 32, [.int .i64 0, .int .i64 0, .string .empty], false⟩ := rfl
theorem look66 : look tyL 66 = some ⟨.struct [(0, 3), (1, 3), (2, 9)], 3, 32, [.int .i64 0, .int .i64 0, .string .empty], true⟩ := rfl
theorem look67 : look tyL 67 = some ⟨.func, 1, 8, [.nilFunc], false⟩ := rfl
theorem look68 : look tyL 68 = some ⟨.func, 1, 8, [.nilFunc], false⟩ := rfl
theorem look69 : look tyL 69 = some ⟨.map 9 4, 1, 8, [.map none], false⟩ := rfl
theorem look70 : look tyL 70 = some ⟨.func, 1, 8, [.nilFunc], false⟩ := rfl
theorem look71 : look tyL 71 = some ⟨.func, 1, 8, [.nilFunc], false⟩ := rfl
theorem look72 : look tyL 72 = some ⟨.func, 1, 8, [.nilFunc], false⟩ := rfl
theorem look73 : look tyL 73 = some ⟨.func, 1, 8, [.nilFunc], false⟩ := rfl
theorem look74 : look tyL 74 = some ⟨.func, 1, 8, [.nilFunc], false⟩ := rfl
theorem look75 : look tyL 75 = some ⟨.map 9 3, 1, 8, [.map none], false⟩ := rfl
theorem look77 : look tyL 77 = some ⟨.func, 1, 8, [.nilFunc], false⟩ := rfl
theorem look78 : look tyL 78 = some ⟨.func, 1, 8, [.nilFunc], false⟩ := rfl
theorem look79 : look tyL 79 = some ⟨.func, 1, 8, [.nilFunc], false⟩ := rfl
theorem look80 : look tyL 80 = some ⟨.func, 1, 8, [.nilFunc], false⟩ := rfl
theorem look81 : look tyL 81 = some ⟨.func, 1, 8, [.nilFunc], false⟩ := rfl
theorem look82 : look tyL 82 = some ⟨.func, 1, 8, [.nilFunc], false⟩ := rfl
theorem look83 : look tyL 83 = some ⟨.func, 1, 8, [.nilFunc], false⟩ := rfl
theorem look84 : look tyL 84 = some ⟨.func, 1, 8, [.nilFunc], false⟩ := rfl
theorem look85 : look tyL 85 = some ⟨.func, 1, 8, [.nilFunc], false⟩ := rfl
theorem look86 : look tyL 86 = some ⟨.func, 1, 8, [.nilFunc], false⟩ := rfl
theorem look87 : look tyL 87 = some ⟨.func, 1, 8, [.nilFunc], false⟩ := rfl
theorem look88 : look tyL 88 = some ⟨.func, 1, 8, [.nilFunc], false⟩ := rfl
theorem look89 : look tyL 89 = some ⟨.slice 114, 1, 24, [.slice none 0 0], false⟩ := rfl
theorem look90 : look tyL 90 = some ⟨.struct [(0, 9), (1, 3), (2, 89)], 3, 48, [.string .empty, .int .i64 0, .slice none 0 0], false⟩ := rfl
theorem look91 : look tyL 91 = some ⟨.struct [(0, 9), (1, 3), (2, 89)], 3, 48, [.string .empty, .int .i64 0, .slice none 0 0], false⟩ := rfl
theorem look92 : look tyL 92 = some ⟨.func, 1, 8, [.nilFunc], false⟩ := rfl
theorem look93 : look tyL 93 = some ⟨.slice 116, 1, 24, [.slice none 0 0], false⟩ := rfl
theorem look94 : look tyL 94 = some ⟨.slice 93, 1, 24, [.slice none 0 0], false⟩ := rfl
theorem look95 : look tyL 95 = some ⟨.struct [(0, 47), (1, 93), (2, 9), (3, 94)], 4, 88, [.slice none 0 0, .slice none 0 0, .string .empty, .slice none 0 0], false⟩ := rfl
theorem look96 : look tyL 96 = some ⟨.struct [(0, 47), (1, 93), (2, 9), (3, 94)], 4, 88, [.slice none 0 0, .slice none 0 0, .string .empty, .slice none 0 0], false⟩ := rfl
theorem look97 : look tyL 97 = some ⟨.func, 1, 8, [.nilFunc], false⟩ := rfl
theorem look98 : look tyL 98 = some ⟨.func, 1, 8, [.nilFunc], false⟩ := rfl
theorem look99 : look tyL 99 = some ⟨.func, 1, 8, [.nilFunc], false⟩ := rfl
theorem look100 : look tyL 100 = some ⟨.func, 1, 8, [.nilFunc], false⟩ := rfl
theorem look101 : look tyL 101 = some ⟨.func, 1, 8, [.nilFunc], false⟩ := rfl
theorem look102 : look tyL 102 = some ⟨.func, 1, 8, [.nilFunc], false⟩ := rfl
theorem look103 : look tyL 103 = some ⟨.func, 1, 8, [.nilFunc], false⟩ := rfl
theorem look104 : look tyL 104 = some ⟨.func, 1, 8, [.nilFunc], false⟩ := rfl
theorem look105 : look tyL 105 = some ⟨.func, 1, 8, [.nilFunc], false⟩ := rfl
theorem look106 : look tyL 106 = some ⟨.func, 1, 8, [.nilFunc], false⟩ := rfl
theorem look107 : look tyL 107 = some ⟨.func, 1, 8, [.nilFunc], false⟩ := rfl
theorem look108 : look tyL 108 = some ⟨.func, 1, 8, [.nilFunc], false⟩ := rfl
theorem look109 : look tyL 109 = some ⟨.func, 1, 8, [.nilFunc], false⟩ := rfl
theorem look110 : look tyL 110 = some ⟨.func, 1, 8, [.nilFunc], false⟩ := rfl
theorem look111 : look tyL 111 = some ⟨.func, 1, 8, [.nilFunc], false⟩ := rfl
theorem look112 : look tyL 112 = some ⟨.func, 1, 8, [.nilFunc], false⟩ := rfl
theorem look113 : look tyL 113 = some ⟨.func, 1, 8, [.nilFunc], false⟩ := rfl
theorem look114 : look tyL 114 = some ⟨.struct [(0, 9), (1, 4)], 2, 24, [.string .empty, .bool false], false⟩ := rfl
theorem look115 : look tyL 115 = some ⟨.func, 1, 8, [.nilFunc], false⟩ := rfl
theorem look116 : look tyL 116 = some ⟨.struct [(0, 3), (1, 3), (2, 9)], 3, 32, [.int .i64 0, .int .i64 0, .string .empty], false⟩ := rfl
theorem look117 : look tyL 117 = some ⟨.func, 1, 8, [.nilFunc], false⟩ := rfl
theorem look118 : look tyL 118 = some ⟨.func, 1, 8, [.nilFunc], false⟩ := rfl
theorem look119 : look tyL 119 = some ⟨.func, 1, 8, [.nilFunc], false⟩ := rfl
theorem look120 : look tyL 120 = some ⟨.func, 1, 8, [.nilFunc], false⟩ := rfl
theorem look121 : look tyL 121 = some ⟨.func, 1, 8, [.nilFunc], false⟩ := rfl
theorem look122 : look tyL 122 = some ⟨.struct [(0, 17), (1, 17), (2, 17), (3, 9)], 4, 40, [.pointer none, .pointer none, .pointer none, .string .empty], false⟩ := rfl
theorem look123 : look tyL 123 = some ⟨.struct [(0, 17), (1, 17), (2, 17), (3, 9)], 4, 40, [.pointer none, .pointer none, .pointer none, .string .empty], false⟩ := rfl
theorem look127 : look tyL 127 = some ⟨.func, 1, 8, [.nilFunc], false⟩ := rfl
theorem look128 : look tyL 128 = some ⟨.int .u32, 1, 4, [.int .u32 0], false⟩ := rfl
theorem look129 : look tyL 129 = some ⟨.int .u8, 1, 1, [.int .u8 0], false⟩ := rfl
theorem look130 : look tyL 130 = some ⟨.int .u8, 1, 1, [.int .u8 0], false⟩ := rfl
theorem look131 : look tyL 131 = some ⟨.func, 1, 8, [.nilFunc], false⟩ := rfl
theorem look132 : look tyL 132 = some ⟨.ptr 5, 1, 8, [.pointer none], false⟩ := rfl
theorem look133 : look tyL 133 = some ⟨.int .i32, 1, 4, [.int .i32 0], false⟩ := rfl
theorem look134 : look tyL 134 = some ⟨.int .i32, 1, 4, [.int .i32 0], false⟩ := rfl
theorem look135 : look tyL 135 = some ⟨.struct [(0, 12), (1, 12), (2, 128), (3, 129), (4, 5), (5, 5), (6, 130), (7, 131), (8, 132), (9, 133), (10, 134)], 11, 48, [.int .u64 0, .int .u64 0, .int .u32 0, .int .u8 0, .int .u8 0, .int .u8 0, .int .u8 0, .nilFunc, .pointer none, .int .i32 0, .int .i32 0], false⟩ := rfl
theorem look136 : look tyL 136 = some ⟨.struct [(0, 12), (1, 12), (2, 128), (3, 129), (4, 5), (5, 5), (6, 130), (7, 131), (8, 132), (9, 133), (10, 134)], 11, 48, [.int .u64 0, .int .u64 0, .int .u32 0, .int .u8 0, .int .u8 0, .int .u8 0, .int .u8 0, .nilFunc, .pointer none, .int .i32 0, .int .i32 0], false⟩ := rfl
end Go.Pm
