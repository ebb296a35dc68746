/- The table of the types of this translation, as the abstract machine looks at them (printed by wip/gen_types.py), and that it fits the program. -/
import Derived.Test.YtaabemmnjhgbgaaGreatDoorProg
import Derived.Test.YtaabemmnjhgbgaaGreatDoorA1
import Derived.Test.YtaabemmnjhgbgaaGreatDoorA3
import Derived.Test.YtaabemmnjhgbgaaGreatDoorA4
set_option linter.unusedVariables false
namespace Go.Pm
def tyL : List (Option TI) := [
  none,
  some ⟨.func, 1, 8, [.nilFunc], false⟩,
  some ⟨.int .i64, 1, 8, [.int .i64 0], false⟩,
  some ⟨.int .i64, 1, 8, [.int .i64 0], false⟩,
  some ⟨.bool, 1, 1, [.bool false], false⟩,
  some ⟨.int .u8, 1, 1, [.int .u8 0], false⟩,
  some ⟨.int .u8, 1, 1, [.int .u8 0], false⟩,
  some ⟨.struct [(0, 2), (1, 3), (2, 4), (3, 6)], 4, 24, [.int .i64 0, .int .i64 0, .bool false, .int .u8 0], false⟩,
  some ⟨.struct [(0, 2), (1, 3), (2, 4), (3, 6)], 4, 24, [.int .i64 0, .int .i64 0, .bool false, .int .u8 0], false⟩,
  some ⟨.string, 1, 16, [.string .empty], false⟩,
  some ⟨.string, 1, 16, [.string .empty], false⟩,
  some ⟨.string, 1, 16, [.string .empty], false⟩,
  some ⟨.int .u64, 1, 8, [.int .u64 0], false⟩,
  some ⟨.struct [(0, 9), (1, 12)], 2, 24, [.string .empty, .int .u64 0], false⟩,
  some ⟨.struct [(0, 9), (1, 12)], 2, 24, [.string .empty, .int .u64 0], false⟩,
  some ⟨.ptr 175, 1, 8, [.pointer none], false⟩,
  some ⟨.ptr 178, 1, 8, [.pointer none], false⟩,
  some ⟨.ptr 186, 1, 8, [.pointer none], false⟩,
  some ⟨.struct [(0, 17)], 1, 8, [.pointer none], false⟩,
  some ⟨.struct [(0, 17)], 1, 8, [.pointer none], false⟩,
  some ⟨.iface, 1, 16, [.nilIface], false⟩,
  some ⟨.int .i32, 1, 4, [.int .i32 0], false⟩,
  some ⟨.slice 56, 1, 24, [.slice none 0 0], false⟩,
  some ⟨.struct [(0, 22)], 1, 24, [.slice none 0 0], false⟩,
  some ⟨.struct [(0, 22)], 1, 24, [.slice none 0 0], false⟩,
  some ⟨.func, 1, 8, [.nilFunc], false⟩,
  some ⟨.func, 1, 8, [.nilFunc], false⟩,
  some ⟨.slice 40, 1, 24, [.slice none 0 0], false⟩,
  some ⟨.struct [(0, 27)], 1, 24, [.slice none 0 0], false⟩,
  some ⟨.struct [(0, 27)], 1, 24, [.slice none 0 0], false⟩,
  some ⟨.func, 1, 8, [.nilFunc], false⟩,
  some ⟨.func, 1, 8, [.nilFunc], false⟩,
  some ⟨.func, 1, 8, [.nilFunc], false⟩,
  some ⟨.func, 1, 8, [.nilFunc], false⟩,
  some ⟨.func, 1, 8, [.nilFunc], false⟩,
  some ⟨.slice 9, 1, 24, [.slice none 0 0], false⟩,
  some ⟨.slice 42, 1, 24, [.slice none 0 0], false⟩,
  some ⟨.slice 3, 1, 24, [.slice none 0 0], false⟩,
  some ⟨.slice 47, 1, 24, [.slice none 0 0], false⟩,
  some ⟨.struct [(0, 9), (1, 36), (2, 36), (3, 35), (4, 37), (5, 37), (6, 38)], 7, 160, [.string .empty, .slice none 0 0, .slice none 0 0, .slice none 0 0, .slice none 0 0, .slice none 0 0, .slice none 0 0], false⟩,
  some ⟨.struct [(0, 9), (1, 36), (2, 36), (3, 35), (4, 37), (5, 37), (6, 38)], 7, 160, [.string .empty, .slice none 0 0, .slice none 0 0, .slice none 0 0, .slice none 0 0, .slice none 0 0, .slice none 0 0], false⟩,
  some ⟨.struct [(0, 9), (1, 3)], 2, 24, [.string .empty, .int .i64 0], false⟩,
  some ⟨.struct [(0, 9), (1, 3)], 2, 24, [.string .empty, .int .i64 0], true⟩,
  some ⟨.func, 1, 8, [.nilFunc], false⟩,
  some ⟨.slice 91, 1, 24, [.slice none 0 0], false⟩,
  some ⟨.slice 44, 1, 24, [.slice none 0 0], false⟩,
  some ⟨.struct [(0, 3), (1, 9), (2, 3), (3, 35), (4, 44), (5, 45)], 6, 104, [.int .i64 0, .string .empty, .int .i64 0, .slice none 0 0, .slice none 0 0, .slice none 0 0], false⟩,
  some ⟨.struct [(0, 3), (1, 9), (2, 3), (3, 35), (4, 44), (5, 45)], 6, 104, [.int .i64 0, .string .empty, .int .i64 0, .slice none 0 0, .slice none 0 0, .slice none 0 0], false⟩,
  some ⟨.func, 1, 8, [.nilFunc], false⟩,
  some ⟨.slice 5, 1, 24, [.slice none 0 0], false⟩,
  some ⟨.func, 1, 8, [.nilFunc], false⟩,
  some ⟨.func, 1, 8, [.nilFunc], false⟩,
  some ⟨.func, 1, 8, [.nilFunc], false⟩,
  some ⟨.slice 120, 1, 24, [.slice none 0 0], false⟩,
  some ⟨.slice 125, 1, 24, [.slice none 0 0], false⟩,
  some ⟨.struct [(0, 9), (1, 53), (2, 53), (3, 35), (4, 37), (5, 37), (6, 54)], 7, 160, [.string .empty, .slice none 0 0, .slice none 0 0, .slice none 0 0, .slice none 0 0, .slice none 0 0, .slice none 0 0], false⟩,
  some ⟨.struct [(0, 9), (1, 53), (2, 53), (3, 35), (4, 37), (5, 37), (6, 54)], 7, 160, [.string .empty, .slice none 0 0, .slice none 0 0, .slice none 0 0, .slice none 0 0, .slice none 0 0, .slice none 0 0], false⟩,
  some ⟨.func, 1, 8, [.nilFunc], false⟩,
  some ⟨.func, 1, 8, [.nilFunc], false⟩,
  some ⟨.func, 1, 8, [.nilFunc], false⟩,
  some ⟨.func, 1, 8, [.nilFunc], false⟩,
  some ⟨.func, 1, 8, [.nilFunc], false⟩,
  some ⟨.ptr 98, 1, 8, [.pointer none], false⟩,
  none,
  some ⟨.func, 1, 8, [.nilFunc], false⟩,
  some ⟨.ptr 67, 1, 8, [.pointer none], false⟩,
  some ⟨.struct [(0, 65), (1, 49)], 2, 32, [.pointer none, .slice none 0 0], false⟩,
  some ⟨.struct [(0, 65), (1, 49)], 2, 32, [.pointer none, .slice none 0 0], false⟩,
  some ⟨.iface, 1, 16, [.nilIface], false⟩,
  some ⟨.iface, 1, 16, [.nilIface], false⟩,
  none,
  some ⟨.func, 1, 8, [.nilFunc], false⟩,
  some ⟨.func, 1, 8, [.nilFunc], false⟩,
  some ⟨.func, 1, 8, [.nilFunc], false⟩,
  some ⟨.func, 1, 8, [.nilFunc], false⟩,
  some ⟨.func, 1, 8, [.nilFunc], false⟩,
  some ⟨.func, 1, 8, [.nilFunc], false⟩,
  some ⟨.func, 1, 8, [.nilFunc], false⟩,
  some ⟨.func, 1, 8, [.nilFunc], false⟩,
  some ⟨.func, 1, 8, [.nilFunc], false⟩,
  some ⟨.func, 1, 8, [.nilFunc], false⟩,
  some ⟨.func, 1, 8, [.nilFunc], false⟩,
  some ⟨.func, 1, 8, [.nilFunc], false⟩,
  some ⟨.func, 1, 8, [.nilFunc], false⟩,
  some ⟨.func, 1, 8, [.nilFunc], false⟩,
  some ⟨.func, 1, 8, [.nilFunc], false⟩,
  none,
  some ⟨.func, 1, 8, [.nilFunc], false⟩,
  some ⟨.func, 1, 8, [.nilFunc], false⟩,
  some ⟨.func, 1, 8, [.nilFunc], false⟩,
  some ⟨.struct [(0, 3), (1, 3), (2, 9)], 3, 32, [.int .i64 0, .int .i64 0, .string .empty], false⟩,
  some ⟨.struct [(0, 3), (1, 3), (2, 9)], 3, 32, [.int .i64 0, .int .i64 0, .string .empty], true⟩,
  some ⟨.func, 1, 8, [.nilFunc], false⟩,
  some ⟨.func, 1, 8, [.nilFunc], false⟩,
  some ⟨.func, 1, 8, [.nilFunc], false⟩,
  some ⟨.func, 1, 8, [.nilFunc], false⟩,
  some ⟨.func, 1, 8, [.nilFunc], false⟩,
  some ⟨.struct [(0, 37), (1, 37)], 2, 48, [.slice none 0 0, .slice none 0 0], false⟩,
  some ⟨.struct [(0, 37), (1, 37)], 2, 48, [.slice none 0 0, .slice none 0 0], false⟩,
  some ⟨.map 9 4, 1, 8, [.map none], false⟩,
  some ⟨.map 9 3, 1, 8, [.map none], false⟩,
  none,
  some ⟨.func, 1, 8, [.nilFunc], false⟩,
  some ⟨.slice 36, 1, 24, [.slice none 0 0], false⟩,
  some ⟨.func, 1, 8, [.nilFunc], false⟩,
  some ⟨.func, 1, 8, [.nilFunc], false⟩,
  some ⟨.slice 110, 1, 24, [.slice none 0 0], false⟩,
  none,
  some ⟨.func, 1, 8, [.nilFunc], false⟩,
  some ⟨.func, 1, 8, [.nilFunc], false⟩,
  some ⟨.ptr 112, 1, 8, [.pointer none], false⟩,
  some ⟨.struct [(0, 47), (6, 106), (7, 106)], 8, 152, [.int .i64 0, .string .empty, .int .i64 0, .slice none 0 0, .slice none 0 0, .slice none 0 0, .slice none 0 0, .slice none 0 0], false⟩,
  some ⟨.struct [(0, 47), (6, 106), (7, 106)], 8, 152, [.int .i64 0, .string .empty, .int .i64 0, .slice none 0 0, .slice none 0 0, .slice none 0 0, .slice none 0 0, .slice none 0 0], false⟩,
  some ⟨.map 3 9, 1, 8, [.map none], false⟩,
  some ⟨.ptr 5, 1, 8, [.pointer none], false⟩,
  some ⟨.func, 1, 8, [.nilFunc], false⟩,
  some ⟨.func, 1, 8, [.nilFunc], false⟩,
  some ⟨.func, 1, 8, [.nilFunc], false⟩,
  some ⟨.func, 1, 8, [.nilFunc], false⟩,
  some ⟨.func, 1, 8, [.nilFunc], false⟩,
  some ⟨.struct [(0, 9), (1, 3)], 2, 24, [.string .empty, .int .i64 0], false⟩,
  some ⟨.func, 1, 8, [.nilFunc], false⟩,
  some ⟨.slice 161, 1, 24, [.slice none 0 0], false⟩,
  some ⟨.slice 122, 1, 24, [.slice none 0 0], false⟩,
  some ⟨.struct [(0, 3), (1, 9), (2, 3), (3, 35), (4, 122), (5, 123)], 6, 104, [.int .i64 0, .string .empty, .int .i64 0, .slice none 0 0, .slice none 0 0, .slice none 0 0], false⟩,
  some ⟨.struct [(0, 3), (1, 9), (2, 3), (3, 35), (4, 122), (5, 123)], 6, 104, [.int .i64 0, .string .empty, .int .i64 0, .slice none 0 0, .slice none 0 0, .slice none 0 0], false⟩,
  some ⟨.func, 1, 8, [.nilFunc], false⟩,
  some ⟨.func, 1, 8, [.nilFunc], false⟩,
  some ⟨.func, 1, 8, [.nilFunc], false⟩,
  some ⟨.func, 1, 8, [.nilFunc], false⟩,
  some ⟨.func, 1, 8, [.nilFunc], false⟩,
  some ⟨.func, 1, 8, [.nilFunc], false⟩,
  some ⟨.func, 1, 8, [.nilFunc], false⟩,
  some ⟨.func, 1, 8, [.nilFunc], false⟩,
  some ⟨.slice 135, 1, 24, [.slice none 0 0], false⟩,
  some ⟨.ptr 137, 1, 8, [.pointer none], false⟩,
  some ⟨.struct [(0, 110), (1, 4)], 2, 16, [.pointer none, .bool false], false⟩,
  some ⟨.struct [(0, 110), (1, 4)], 2, 16, [.pointer none, .bool false], false⟩,
  some ⟨.func, 1, 8, [.nilFunc], false⟩,
  none,
  some ⟨.func, 1, 8, [.nilFunc], false⟩,
  some ⟨.func, 1, 8, [.nilFunc], false⟩,
  some ⟨.func, 1, 8, [.nilFunc], false⟩,
  some ⟨.func, 1, 8, [.nilFunc], false⟩,
  some ⟨.func, 1, 8, [.nilFunc], false⟩,
  some ⟨.func, 1, 8, [.nilFunc], false⟩,
  some ⟨.func, 1, 8, [.nilFunc], false⟩,
  some ⟨.func, 1, 8, [.nilFunc], false⟩,
  none,
  some ⟨.func, 1, 8, [.nilFunc], false⟩,
  some ⟨.func, 1, 8, [.nilFunc], false⟩,
  some ⟨.func, 1, 8, [.nilFunc], false⟩,
  some ⟨.array 24 5, 24, 24, [.int .u8 0, .int .u8 0, .int .u8 0, .int .u8 0, .int .u8 0, .int .u8 0, .int .u8 0, .int .u8 0, .int .u8 0, .int .u8 0, .int .u8 0, .int .u8 0, .int .u8 0, .int .u8 0, .int .u8 0, .int .u8 0, .int .u8 0, .int .u8 0, .int .u8 0, .int .u8 0, .int .u8 0, .int .u8 0, .int .u8 0, .int .u8 0], false⟩,
  some ⟨.int .u64, 1, 8, [.int .u64 0], false⟩,
  some ⟨.func, 1, 8, [.nilFunc], false⟩,
  some ⟨.func, 1, 8, [.nilFunc], false⟩,
  none,
  some ⟨.func, 1, 8, [.nilFunc], false⟩,
  some ⟨.func, 1, 8, [.nilFunc], false⟩,
  some ⟨.func, 1, 8, [.nilFunc], false⟩,
  some ⟨.func, 1, 8, [.nilFunc], false⟩,
  some ⟨.struct [(0, 3), (1, 3), (2, 9)], 3, 32, [.int .i64 0, .int .i64 0, .string .empty], false⟩,
  some ⟨.func, 1, 8, [.nilFunc], false⟩,
  some ⟨.func, 1, 8, [.nilFunc], false⟩,
  some ⟨.func, 1, 8, [.nilFunc], false⟩,
  some ⟨.array 20 153, 20, 160, [.int .u64 0, .int .u64 0, .int .u64 0, .int .u64 0, .int .u64 0, .int .u64 0, .int .u64 0, .int .u64 0, .int .u64 0, .int .u64 0, .int .u64 0, .int .u64 0, .int .u64 0, .int .u64 0, .int .u64 0, .int .u64 0, .int .u64 0, .int .u64 0, .int .u64 0, .int .u64 0], false⟩,
  some ⟨.int .u32, 1, 4, [.int .u32 0], false⟩,
  some ⟨.array 65 5, 65, 65, [.int .u8 0, .int .u8 0, .int .u8 0, .int .u8 0, .int .u8 0, .int .u8 0, .int .u8 0, .int .u8 0, .int .u8 0, .int .u8 0, .int .u8 0, .int .u8 0, .int .u8 0, .int .u8 0, .int .u8 0, .int .u8 0, .int .u8 0, .int .u8 0, .int .u8 0, .int .u8 0, .int .u8 0, .int .u8 0, .int .u8 0, .int .u8 0, .int .u8 0, .int .u8 0, .int .u8 0, .int .u8 0, .int .u8 0, .int .u8 0, .int .u8 0, .int .u8 0, .int .u8 0, .int .u8 0, .int .u8 0, .int .u8 0, .int .u8 0, .int .u8 0, .int .u8 0, .int .u8 0, .int .u8 0, .int .u8 0, .int .u8 0, .int .u8 0, .int .u8 0, .int .u8 0, .int .u8 0, .int .u8 0, .int .u8 0, .int .u8 0, .int .u8 0, .int .u8 0, .int .u8 0, .int .u8 0, .int .u8 0, .int .u8 0, .int .u8 0, .int .u8 0, .int .u8 0, .int .u8 0, .int .u8 0, .int .u8 0, .int .u8 0, .int .u8 0, .int .u8 0], false⟩,
  some ⟨.int .u64, 1, 8, [.int .u64 0], false⟩,
  some ⟨.func, 1, 8, [.nilFunc], false⟩,
  some ⟨.func, 1, 8, [.nilFunc], false⟩,
  some ⟨.func, 1, 8, [.nilFunc], false⟩,
  some ⟨.array 32 5, 32, 32, [.int .u8 0, .int .u8 0, .int .u8 0, .int .u8 0, .int .u8 0, .int .u8 0, .int .u8 0, .int .u8 0, .int .u8 0, .int .u8 0, .int .u8 0, .int .u8 0, .int .u8 0, .int .u8 0, .int .u8 0, .int .u8 0, .int .u8 0, .int .u8 0, .int .u8 0, .int .u8 0, .int .u8 0, .int .u8 0, .int .u8 0, .int .u8 0, .int .u8 0, .int .u8 0, .int .u8 0, .int .u8 0, .int .u8 0, .int .u8 0, .int .u8 0, .int .u8 0], false⟩,
  some ⟨.array 64 5, 64, 64, [.int .u8 0, .int .u8 0, .int .u8 0, .int .u8 0, .int .u8 0, .int .u8 0, .int .u8 0, .int .u8 0, .int .u8 0, .int .u8 0, .int .u8 0, .int .u8 0, .int .u8 0, .int .u8 0, .int .u8 0, .int .u8 0, .int .u8 0, .int .u8 0, .int .u8 0, .int .u8 0, .int .u8 0, .int .u8 0, .int .u8 0, .int .u8 0, .int .u8 0, .int .u8 0, .int .u8 0, .int .u8 0, .int .u8 0, .int .u8 0, .int .u8 0, .int .u8 0, .int .u8 0, .int .u8 0, .int .u8 0, .int .u8 0, .int .u8 0, .int .u8 0, .int .u8 0, .int .u8 0, .int .u8 0, .int .u8 0, .int .u8 0, .int .u8 0, .int .u8 0, .int .u8 0, .int .u8 0, .int .u8 0, .int .u8 0, .int .u8 0, .int .u8 0, .int .u8 0, .int .u8 0, .int .u8 0, .int .u8 0, .int .u8 0, .int .u8 0, .int .u8 0, .int .u8 0, .int .u8 0, .int .u8 0, .int .u8 0, .int .u8 0, .int .u8 0], false⟩,
  some ⟨.struct [(0, 17), (1, 17), (2, 17), (3, 9)], 4, 40, [.pointer none, .pointer none, .pointer none, .string .empty], false⟩,
  some ⟨.struct [(0, 17), (1, 17), (2, 17), (3, 9)], 4, 40, [.pointer none, .pointer none, .pointer none, .string .empty], false⟩,
  none,
  none,
  none,
  some ⟨.func, 1, 8, [.nilFunc], false⟩,
  some ⟨.int .u8, 1, 1, [.int .u8 0], false⟩,
  some ⟨.int .u8, 1, 1, [.int .u8 0], false⟩,
  some ⟨.func, 1, 8, [.nilFunc], false⟩,
  some ⟨.int .i32, 1, 4, [.int .i32 0], false⟩,
  some ⟨.int .i32, 1, 4, [.int .i32 0], false⟩,
  some ⟨.struct [(0, 12), (1, 12), (2, 166), (3, 180), (4, 5), (5, 5), (6, 181), (7, 182), (8, 114), (9, 183), (10, 184)], 11, 48, [.int .u64 0, .int .u64 0, .int .u32 0, .int .u8 0, .int .u8 0, .int .u8 0, .int .u8 0, .nilFunc, .pointer none, .int .i32 0, .int .i32 0], false⟩,
  some ⟨.struct [(0, 12), (1, 12), (2, 166), (3, 180), (4, 5), (5, 5), (6, 181), (7, 182), (8, 114), (9, 183), (10, 184)], 11, 48, [.int .u64 0, .int .u64 0, .int .u32 0, .int .u8 0, .int .u8 0, .int .u8 0, .int .u8 0, .nilFunc, .pointer none, .int .i32 0, .int .i32 0], false⟩]
set_option maxRecDepth 100000 in
theorem tyL_ok : checkAll Go.Proofs.Tryz.prog tyL tyL 0 = true := by kernel_rfl
-- types: 1=func() 2=int64 3=int 4=bool 5=uint8 6=abi.BoundsErrorCode 8=runtime.boundsError 9=string 10=runtime.errorString 11=runtime.plainError 12=uintptr 13=struct_{_msg_string;_addr_uintptr_} 14=runtime.errorAddressString 15=RuntimeError 16=RuntimeError 17=Align 18=struct_{_typ_*abi.Type_} 19=maps.unhashableTypeError 20=interface_{} 21=int32 22=[]laws.Class 23=struct_{_Classes_[]laws.Class_} 24=laws.Machine 25=func(laws.Machine,_int)_int 26=func(impl.Machine)_string 27=[]impl.Class 28=struct_{_Classes_[]impl.Class_} 29=impl.Machine 30=func(laws.Machine)_impl.Machine 31=func(impl.Machine,_impl.Machine)_bool 32=func(laws.Machine)_bool 33=func([]laws.Class,_int)_int 34=func(impl.Machine)_bool 35=[]string 36=[]impl.Slot 37=[]int 38=[]impl.Stm 40=impl.Class 41=struct_{_Name_string;_Type_int_} 42=impl.Slot 43=func(int)_string 44=[]impl.Item 45=[][]impl.Item 47=impl.Stm 48=func(impl.Stm)_string 49=[]uint8 50=func([]laws.Class)_[]impl.Class 51=func([]impl.Class,_[]impl.Class)_bool 52=func(laws.Class,_int)_int 53=[]laws.Slot 54=[]laws.Stm 56=laws.Class 57=func(impl.Machine,_int)_bool 58=func(impl.Machine)_[]int 59=func([]impl.Item)_string 60=func([]string,_string)_string 61=func(laws.Class)_impl.Class 62=*impl.sizes 64=func(impl.Machine)_(*impl.sizes,_bool) 65=strings.copyCheck 66=struct_{_addr_*strings.Builder;_buf_[]uint8_} 67=strings.Builder 68=interface_{_Error()_string_} 69=error 71=func(string)_(int,_error) 72=func(string,_[]impl.Slot) 73=func(*strings.Builder,_[]impl.Item) 74=func()_string 75=func(impl.Class,_impl.Class)_bool 76=func([]laws.Slot,_int)_int 77=func([]string,_int)_int 78=func([]int,_int)_int 79=func([]laws.Stm,_int)_int 80=func(string)_bool 81=func(impl.Class)_[]string 82=func([]string,_string)_int 83=func(int)_int 84=func(impl.Machine,_impl.Class,_impl.Stm)_bool 85=func([]impl.Stm,_int)_bool 87=func([]impl.Stm,_int)_(int,_int) 88=func(impl.Stm,_string)_bool 89=func(impl.Class,_[]impl.Stm,_[]int)_int 90=struct_{_Op_int;_Val_int;_Name_string_} 91=impl.Item 92=func(impl.Item)_string 93=func([]laws.Slot)_[]impl.Slot 94=func([]string)_[]string 95=func([]int)_[]int 96=func([]laws.Stm)_[]impl.Stm 97=struct_{_cells_[]int;_bound_[]int_} 98=impl.sizes 99=map[string]bool 100=map[string]int 102=func(string,_int)_bool 103=[][]impl.Slot 104=func(int)_bool 105=func([]impl.Item,_map[string]int,_int)_bool 106=[]*impl.branch 108=func([]impl.Stm)_([]*impl.branch,_bool) 109=func([]*impl.branch)_int 110=*impl.branch 112=impl.branch 113=map[int]string 114=*uint8 115=func([]impl.Slot,_[]impl.Slot)_bool 116=func([]string,_[]string)_bool 117=func([]int,_[]int)_bool 118=func([]impl.Stm,_[]impl.Stm)_bool 119=func(laws.Slot,_int)_int 120=laws.Slot 121=func(laws.Stm,_int)_int 122=[]laws.Item 123=[][]laws.Item 125=laws.Stm 126=func(impl.Class,_string)_bool 127=func(impl.Class,_[]impl.Item)_bool 128=func([]string,_string)_bool 129=func(laws.Slot)_impl.Slot 130=func(laws.Stm)_impl.Stm 131=func(uint8)_bool 132=func(impl.Item)_bool 133=func([]impl.Item)_bool 134=[]*impl.open 135=*impl.open 136=struct_{_b_*impl.branch;_els_bool_} 137=impl.open 138=func(*impl.branch) 140=func(unsafe.Pointer)_unsafe.Pointer 141=func(int64,_int)_string 142=func(impl.Slot,_impl.Slot)_bool 143=func(impl.Stm,_impl.Stm)_bool 144=func([]laws.Item,_int)_int 145=func([][]laws.Item,_int)_int 146=func()_[]string 147=func([]impl.Item,_int)_bool 149=func(int)_([]string,_[]int) 150=func([]laws.Item)_[]impl.Item 151=func([][]laws.Item)_[][]impl.Item 152=[24]uint8 153=uint64 154=func(uint64)_int 155=func([]uint8,_uint64) 157=func([]uint8,_uint64,_int,_bool,_bool)_([]uint8,_string) 158=func([]impl.Item,_[]impl.Item)_bool 159=func([][]impl.Item,_[][]impl.Item)_bool 160=func(laws.Item,_int)_int 161=laws.Item 162=func([]impl.Item,_int)_int 163=func(laws.Item)_impl.Item 164=func(bool)_int 165=[20]uint64 166=uint32 167=[65]uint8 168=uint 169=func(uint)_int 170=func(impl.Item,_impl.Item)_bool 171=func(uint32)_int 172=[32]uint8 173=[64]uint8 175=runtime.TypeAssertionError 179=func()_int 180=abi.TFlag 181=abi.Kind 182=func(unsafe.Pointer,_unsafe.Pointer)_bool 183=abi.NameOff 184=abi.TypeOff 186=abi.Type
theorem look1 : look tyL 1 = some ⟨.func, 1, 8, [.nilFunc], false⟩ := rfl
theorem look2 : look tyL 2 = some ⟨.int .i64, 1, 8, [.int .i64 0], false⟩ := rfl
theorem look3 : look tyL 3 = some ⟨.int .i64, 1, 8, [.int .i64 0], false⟩ := rfl
theorem look4 : look tyL 4 = some ⟨.bool, 1, 1, [.bool false], false⟩ := rfl
theorem look5 : look tyL 5 = some ⟨.int .u8, 1, 1, [.int .u8 0], false⟩ := rfl
theorem look6 : look tyL 6 = some ⟨.int .u8, 1, 1, [.int .u8 0], false⟩ := rfl
theorem look7 : look tyL 7 = some ⟨.struct [(0, 2), (1, 3), (2, 4), (3, 6)], 4, 24, [.int .i64 0, .int .i64 0, .bool false, .int .u8 0], false⟩ := rfl
theorem look8 : look tyL 8 = some ⟨.struct [(0, 2), (1, 3), (2, 4), (3, 6)], 4, 24, [.int .i64 0, .int .i64 0, .bool false, .int .u8 0], false⟩ := rfl
theorem look9 : look tyL 9 = some ⟨.string, 1, 16, [.string .empty], false⟩ := rfl
theorem look10 : look tyL 10 = some ⟨.string, 1, 16, [.string .empty], false⟩ := rfl
theorem look11 : look tyL 11 = some ⟨.string, 1, 16, [.string .empty], false⟩ := rfl
theorem look12 : look tyL 12 = some ⟨.int .u64, 1, 8, [.int .u64 0], false⟩ := rfl
theorem look13 : look tyL 13 = some ⟨.struct [(0, 9), (1, 12)], 2, 24, [.string .empty, .int .u64 0], false⟩ := rfl
theorem look14 : look tyL 14 = some ⟨.struct [(0, 9), (1, 12)], 2, 24, [.string .empty, .int .u64 0], false⟩ := rfl
theorem look15 : look tyL 15 = some ⟨.ptr 175, 1, 8, [.pointer none], false⟩ := rfl
theorem look16 : look tyL 16 = some ⟨.ptr 178, 1, 8, [.pointer none], false⟩ := rfl
theorem look17 : look tyL 17 = some ⟨.ptr 186, 1, 8, [.pointer none], false⟩ := rfl
theorem look18 : look tyL 18 = some ⟨.struct [(0, 17)], 1, 8, [.pointer none], false⟩ := rfl
theorem look19 : look tyL 19 = some ⟨.struct [(0, 17)], 1, 8, [.pointer none], false⟩ := rfl
theorem look20 : look tyL 20 = some ⟨.iface, 1, 16, [.nilIface], false⟩ := rfl
theorem look21 : look tyL 21 = some ⟨.int .i32, 1, 4, [.int .i32 0], false⟩ := rfl
theorem look22 : look tyL 22 = some ⟨.slice 56, 1, 24, [.slice none 0 0], false⟩ := rfl
theorem look23 : look tyL 23 = some ⟨.struct [(0, 22)], 1, 24, [.slice none 0 0], false⟩ := rfl
theorem look24 : look tyL 24 = some ⟨.struct [(0, 22)], 1, 24, [.slice none 0 0], false⟩ := rfl
theorem look25 : look tyL 25 = some ⟨.func, 1, 8, [.nilFunc], false⟩ := rfl
theorem look26 : look tyL 26 = some ⟨.func, 1, 8, [.nilFunc], false⟩ := rfl
theorem look27 : look tyL 27 = some ⟨.slice 40, 1, 24, [.slice none 0 0], false⟩ := rfl
theorem look28 : look tyL 28 = some ⟨.struct [(0, 27)], 1, 24, [.slice none 0 0], false⟩ := rfl
theorem look29 : look tyL 29 = some ⟨.struct [(0, 27)], 1, 24, [.slice none 0 0], false⟩ := rfl
theorem look30 : look tyL 30 = some ⟨.func, 1, 8, [.nilFunc], false⟩ := rfl
theorem look31 : look tyL 31 = some ⟨.func, 1, 8, [.nilFunc], false⟩ := rfl
theorem look32 : look tyL 32 = some ⟨.func, 1, 8, [.nilFunc], false⟩ := rfl
theorem look33 : look tyL 33 = some ⟨.func, 1, 8, [.nilFunc], false⟩ := rfl
theorem look34 : look tyL 34 = some ⟨.func, 1, 8, [.nilFunc], false⟩ := rfl
theorem look35 : look tyL 35 = some ⟨.slice 9, 1, 24, [.slice none 0 0], false⟩ := rfl
theorem look36 : look tyL 36 = some ⟨.slice 42, 1, 24, [.slice none 0 0], false⟩ := rfl
theorem look37 : look tyL 37 = some ⟨.slice 3, 1, 24, [.slice none 0 0], false⟩ := rfl
theorem look38 : look tyL 38 = some ⟨.slice 47, 1, 24, [.slice none 0 0], false⟩ := rfl
theorem look39 : look tyL 39 = some ⟨.struct [(0, 9), (1, 36), (2, 36), (3, 35), (4, 37), (5, 37), (6, 38)], 7, 160, [.string .empty, .slice none 0 0, .slice none 0 0, .slice none 0 0, .slice none 0 0, .slice none 0 0, .slice none 0 0], false⟩ := rfl
theorem look40 : look tyL 40 = some ⟨.struct [(0, 9), (1, 36), (2, 36), (3, 35), (4, 37), (5, 37), (6, 38)], 7, 160, [.string .empty, .slice none 0 0, .slice none 0 0, .slice none 0 0, .slice none 0 0, .slice none 0 0, .slice none 0 0], false⟩ := rfl
theorem look41 : look tyL 41 = some ⟨.struct [(0, 9), (1, 3)], 2, 24, [.string .empty, .int .i64 0], false⟩ := rfl
theorem look42 : look tyL 42 = some ⟨.struct [(0, 9), (1, 3)], 2, 24, [.string .empty, .int .i64 0], true⟩ := rfl
theorem look43 : look tyL 43 = some ⟨.func, 1, 8, [.nilFunc], false⟩ := rfl
theorem look44 : look tyL 44 = some ⟨.slice 91, 1, 24, [.slice none 0 0], false⟩ := rfl
theorem look45 : look tyL 45 = some ⟨.slice 44, 1, 24, [.slice none 0 0], false⟩ := rfl
theorem look46 : look tyL 46 = some ⟨.struct [(0, 3), (1, 9), (2, 3), (3, 35), (4, 44), (5, 45)], 6, 104, [.int .i64 0, .string .empty, .int .i64 0, .slice none 0 0, .slice none 0 0, .slice none 0 0], false⟩ := rfl
theorem look47 : look tyL 47 = some ⟨.struct [(0, 3), (1, 9), (2, 3), (3, 35), (4, 44), (5, 45)], 6, 104, [.int .i64 0, .string .empty, .int .i64 0, .slice none 0 0, .slice none 0 0, .slice none 0 0], false⟩ := rfl
theorem look48 : look tyL 48 = some ⟨.func, 1, 8, [.nilFunc], false⟩ := rfl
theorem look49 : look tyL 49 = some ⟨.slice 5, 1, 24, [.slice none 0 0], false⟩ := rfl
theorem look50 : look tyL 50 = some ⟨.func, 1, 8, [.nilFunc], false⟩ := rfl
theorem look51 : look tyL 51 = some ⟨.func, 1, 8, [.nilFunc], false⟩ := rfl
theorem look52 : look tyL 52 = some ⟨.func, 1, 8, [.nilFunc], false⟩ := rfl
theorem look53 : look tyL 53 = some ⟨.slice 120, 1, 24, [.slice none 0 0], false⟩ := rfl
theorem look54 : look tyL 54 = some ⟨.slice 125, 1, 24, [.slice none 0 0], false⟩ := rfl
theorem look55 : look tyL 55 = some ⟨.struct [(0, 9), (1, 53), (2, 53), (3, 35), (4, 37), (5, 37), (6, 54)], 7, 160, [.string .empty, .slice none 0 0, .slice none 0 0, .slice none 0 0, .slice none 0 0, .slice none 0 0, .slice none 0 0], false⟩ := rfl
theorem look56 : look tyL 56 = some ⟨.struct [(0, 9), (1, 53), (2, 53), (3, 35), (4, 37), (5, 37), (6, 54)], 7, 160, [.string .empty, .slice none 0 0, .slice none 0 0, .slice none 0 0, .slice none 0 0, .slice none 0 0, .slice none 0 0], false⟩ := rfl
theorem look57 : look tyL 57 = some ⟨.func, 1, 8, [.nilFunc], false⟩ := rfl
theorem look58 : look tyL 58 = some ⟨.func, 1, 8, [.nilFunc], false⟩ := rfl
theorem look59 : look tyL 59 = some ⟨.func, 1, 8, [.nilFunc], false⟩ := rfl
theorem look60 : look tyL 60 = some ⟨.func, 1, 8, [.nilFunc], false⟩ := rfl
theorem look61 : look tyL 61 = some ⟨.func, 1, 8, [.nilFunc], false⟩ := rfl
theorem look62 : look tyL 62 = some ⟨.ptr 98, 1, 8, [.pointer none], false⟩ := rfl
theorem look64 : look tyL 64 = some ⟨.func, 1, 8, [.nilFunc], false⟩ := rfl
theorem look65 : look tyL 65 = some ⟨.ptr 67, 1, 8, [.pointer none], false⟩ := rfl
theorem look66 : look tyL 66 = some ⟨.struct [(0, 65), (1, 49)], 2, 32, [.pointer none, .slice none 0 0], false⟩ := rfl
theorem look67 : look tyL 67 = some ⟨.struct [(0, 65), (1, 49)], 2, 32, [.pointer none, .slice none 0 0], false⟩ := rfl
theorem look68 : look tyL 68 = some ⟨.iface, 1, 16, [.nilIface], false⟩ := rfl
theorem look69 : look tyL 69 = some ⟨.iface, 1, 16, [.nilIface], false⟩ := rfl
theorem look71 : look tyL 71 = some ⟨.func, 1, 8, [.nilFunc], false⟩ := rfl
theorem look72 : look tyL 72 = some ⟨.func, 1, 8, [.nilFunc], false⟩ := rfl
theorem look73 : look tyL 73 = some ⟨.func, 1, 8, [.nilFunc], false⟩ := rfl
theorem look74 : look tyL 74 = some ⟨.func, 1, 8, [.nilFunc], false⟩ := rfl
theorem look75 : look tyL 75 = some ⟨.func, 1, 8, [.nilFunc], false⟩ := rfl
theorem look76 : look tyL 76 = some ⟨.func, 1, 8, [.nilFunc], false⟩ := rfl
theorem look77 : look tyL 77 = some ⟨.func, 1, 8, [.nilFunc], false⟩ := rfl
theorem look78 : look tyL 78 = some ⟨.func, 1, 8, [.nilFunc], false⟩ := rfl
theorem look79 : look tyL 79 = some ⟨.func, 1, 8, [.nilFunc], false⟩ := rfl
theorem look80 : look tyL 80 = some ⟨.func, 1, 8, [.nilFunc], false⟩ := rfl
theorem look81 : look tyL 81 = some ⟨.func, 1, 8, [.nilFunc], false⟩ := rfl
theorem look82 : look tyL 82 = some ⟨.func, 1, 8, [.nilFunc], false⟩ := rfl
theorem look83 : look tyL 83 = some ⟨.func, 1, 8, [.nilFunc], false⟩ := rfl
theorem look84 : look tyL 84 = some ⟨.func, 1, 8, [.nilFunc], false⟩ := rfl
theorem look85 : look tyL 85 = some ⟨.func, 1, 8, [.nilFunc], false⟩ := rfl
theorem look87 : look tyL 87 = some ⟨.func, 1, 8, [.nilFunc], false⟩ := rfl
theorem look88 : look tyL 88 = some ⟨.func, 1, 8, [.nilFunc], false⟩ := rfl
theorem look89 : look tyL 89 = some ⟨.func, 1, 8, [.nilFunc], false⟩ := rfl
theorem look90 : look tyL 90 = some ⟨.struct [(0, 3), (1, 3), (2, 9)], 3, 32, [.int .i64 0, .int .i64 0, .string .empty], false⟩ := rfl
theorem look91 : look tyL 91 = some ⟨.struct [(0, 3), (1, 3), (2, 9)], 3, 32, [.int .i64 0, .int .i64 0, .string .empty], true⟩ := rfl
theorem look92 : look tyL 92 = some ⟨.func, 1, 8, [.nilFunc], false⟩ := rfl
theorem look93 : look tyL 93 = some ⟨.func, 1, 8, [.nilFunc], false⟩ := rfl
theorem look94 : look tyL 94 = some ⟨.func, 1, 8, [.nilFunc], false⟩ := rfl
theorem look95 : look tyL 95 = some ⟨.func, 1, 8, [.nilFunc], false⟩ := rfl
theorem look96 : look tyL 96 = some ⟨.func, 1, 8, [.nilFunc], false⟩ := rfl
theorem look97 : look tyL 97 = some ⟨.struct [(0, 37), (1, 37)], 2, 48, [.slice none 0 0, .slice none 0 0], false⟩ := rfl
theorem look98 : look tyL 98 = some ⟨.struct [(0, 37), (1, 37)], 2, 48, [.slice none 0 0, .slice none 0 0], false⟩ := rfl
theorem look99 : look tyL 99 = some ⟨.map 9 4, 1, 8, [.map none], false⟩ := rfl
theorem look100 : look tyL 100 = some ⟨.map 9 3, 1, 8, [.map none], false⟩ := rfl
theorem look102 : look tyL 102 = some ⟨.func, 1, 8, [.nilFunc], false⟩ := rfl
theorem look103 : look tyL 103 = some ⟨.slice 36, 1, 24, [.slice none 0 0], false⟩ := rfl
theorem look104 : look tyL 104 = some ⟨.func, 1, 8, [.nilFunc], false⟩ := rfl
theorem look105 : look tyL 105 = some ⟨.func, 1, 8, [.nilFunc], false⟩ := rfl
theorem look106 : look tyL 106 = some ⟨.slice 110, 1, 24, [.slice none 0 0], false⟩ := rfl
theorem look108 : look tyL 108 = some ⟨.func, 1, 8, [.nilFunc], false⟩ := rfl
theorem look109 : look tyL 109 = some ⟨.func, 1, 8, [.nilFunc], false⟩ := rfl
theorem look110 : look tyL 110 = some ⟨.ptr 112, 1, 8, [.pointer none], false⟩ := rfl
theorem look111 : look tyL 111 = some ⟨.struct [(0, 47), (6, 106), (7, 106)], 8, 152, [.int .i64 0, .string .empty, .int .i64 0, .slice none 0 0, .slice none 0 0, .slice none 0 0, .slice none 0 0, .slice none 0 0], false⟩ := rfl
theorem look112 : look tyL 112 = some ⟨.struct [(0, 47), (6, 106), (7, 106)], 8, 152, [.int .i64 0, .string .empty, .int .i64 0, .slice none 0 0, .slice none 0 0, .slice none 0 0, .slice none 0 0, .slice none 0 0], false⟩ := rfl
theorem look113 : look tyL 113 = some ⟨.map 3 9, 1, 8, [.map none], false⟩ := rfl
theorem look114 : look tyL 114 = some ⟨.ptr 5, 1, 8, [.pointer none], false⟩ := rfl
theorem look115 : look tyL 115 = some ⟨.func, 1, 8, [.nilFunc], false⟩ := rfl
theorem look116 : look tyL 116 = some ⟨.func, 1, 8, [.nilFunc], false⟩ := rfl
theorem look117 : look tyL 117 = some ⟨.func, 1, 8, [.nilFunc], false⟩ := rfl
theorem look118 : look tyL 118 = some ⟨.func, 1, 8, [.nilFunc], false⟩ := rfl
theorem look119 : look tyL 119 = some ⟨.func, 1, 8, [.nilFunc], false⟩ := rfl
theorem look120 : look tyL 120 = some ⟨.struct [(0, 9), (1, 3)], 2, 24, [.string .empty, .int .i64 0], false⟩ := rfl
theorem look121 : look tyL 121 = some ⟨.func, 1, 8, [.nilFunc], false⟩ := rfl
theorem look122 : look tyL 122 = some ⟨.slice 161, 1, 24, [.slice none 0 0], false⟩ := rfl
theorem look123 : look tyL 123 = some ⟨.slice 122, 1, 24, [.slice none 0 0], false⟩ := rfl
theorem look124 : look tyL 124 = some ⟨.struct [(0, 3), (1, 9), (2, 3), (3, 35), (4, 122), (5, 123)], 6, 104, [.int .i64 0, .string .empty, .int .i64 0, .slice none 0 0, .slice none 0 0, .slice none 0 0], false⟩ := rfl
theorem look125 : look tyL 125 = some ⟨.struct [(0, 3), (1, 9), (2, 3), (3, 35), (4, 122), (5, 123)], 6, 104, [.int .i64 0, .string .empty, .int .i64 0, .slice none 0 0, .slice none 0 0, .slice none 0 0], false⟩ := rfl
theorem look126 : look tyL 126 = some ⟨.func, 1, 8, [.nilFunc], false⟩ := rfl
theorem look127 : look tyL 127 = some ⟨.func, 1, 8, [.nilFunc], false⟩ := rfl
theorem look128 : look tyL 128 = some ⟨.func, 1, 8, [.nilFunc], false⟩ := rfl
theorem look129 : look tyL 129 = some ⟨.func, 1, 8, [.nilFunc], false⟩ := rfl
theorem look130 : look tyL 130 = some ⟨.func, 1, 8, [.nilFunc], false⟩ := rfl
theorem look131 : look tyL 131 = some ⟨.func, 1, 8, [.nilFunc], false⟩ := rfl
theorem look132 : look tyL 132 = some ⟨.func, 1, 8, [.nilFunc], false⟩ := rfl
theorem look133 : look tyL 133 = some ⟨.func, 1, 8, [.nilFunc], false⟩ := rfl
theorem look134 : look tyL 134 = some ⟨.slice 135, 1, 24, [.slice none 0 0], false⟩ := rfl
theorem look135 : look tyL 135 = some ⟨.ptr 137, 1, 8, [.pointer none], false⟩ := rfl
theorem look136 : look tyL 136 = some ⟨.struct [(0, 110), (1, 4)], 2, 16, [.pointer none, .bool false], false⟩ := rfl
theorem look137 : look tyL 137 = some ⟨.struct [(0, 110), (1, 4)], 2, 16, [.pointer none, .bool false], false⟩ := rfl
theorem look138 : look tyL 138 = some ⟨.func, 1, 8, [.nilFunc], false⟩ := rfl
theorem look140 : look tyL 140 = some ⟨.func, 1, 8, [.nilFunc], false⟩ := rfl
theorem look141 : look tyL 141 = some ⟨.func, 1, 8, [.nilFunc], false⟩ := rfl
theorem look142 : look tyL 142 = some ⟨.func, 1, 8, [.nilFunc], false⟩ := rfl
theorem look143 : look tyL 143 = some ⟨.func, 1, 8, [.nilFunc], false⟩ := rfl
theorem look144 : look tyL 144 = some ⟨.func, 1, 8, [.nilFunc], false⟩ := rfl
theorem look145 : look tyL 145 = some ⟨.func, 1, 8, [.nilFunc], false⟩ := rfl
theorem look146 : look tyL 146 = some ⟨.func, 1, 8, [.nilFunc], false⟩ := rfl
theorem look147 : look tyL 147 = some ⟨.func, 1, 8, [.nilFunc], false⟩ := rfl
theorem look149 : look tyL 149 = some ⟨.func, 1, 8, [.nilFunc], false⟩ := rfl
theorem look150 : look tyL 150 = some ⟨.func, 1, 8, [.nilFunc], false⟩ := rfl
theorem look151 : look tyL 151 = some ⟨.func, 1, 8, [.nilFunc], false⟩ := rfl
theorem look152 : look tyL 152 = some ⟨.array 24 5, 24, 24, [.int .u8 0, .int .u8 0, .int .u8 0, .int .u8 0, .int .u8 0, .int .u8 0, .int .u8 0, .int .u8 0, .int .u8 0, .int .u8 0, .int .u8 0, .int .u8 0, .int .u8 0, .int .u8 0, .int .u8 0, .int .u8 0, .int .u8 0, .int .u8 0, .int .u8 0, .int .u8 0, .int .u8 0, .int .u8 0, .int .u8 0, .int .u8 0], false⟩ := rfl
theorem look153 : look tyL 153 = some ⟨.int .u64, 1, 8, [.int .u64 0], false⟩ := rfl
theorem look154 : look tyL 154 = some ⟨.func, 1, 8, [.nilFunc], false⟩ := rfl
theorem look155 : look tyL 155 = some ⟨.func, 1, 8, [.nilFunc], false⟩ := rfl
theorem look157 : look tyL 157 = some ⟨.func, 1, 8, [.nilFunc], false⟩ := rfl
theorem look158 : look tyL 158 = some ⟨.func, 1, 8, [.nilFunc], false⟩ := rfl
theorem look159 : look tyL 159 = some ⟨.func, 1, 8, [.nilFunc], false⟩ := rfl
theorem look160 : look tyL 160 = some ⟨.func, 1, 8, [.nilFunc], false⟩ := rfl
theorem look161 : look tyL 161 = some ⟨.struct [(0, 3), (1, 3), (2, 9)], 3, 32, [.int .i64 0, .int .i64 0, .string .empty], false⟩ := rfl
theorem look162 : look tyL 162 = some ⟨.func, 1, 8, [.nilFunc], false⟩ := rfl
theorem look163 : look tyL 163 = some ⟨.func, 1, 8, [.nilFunc], false⟩ := rfl
theorem look164 : look tyL 164 = some ⟨.func, 1, 8, [.nilFunc], false⟩ := rfl
theorem look165 : look tyL 165 = some ⟨.array 20 153, 20, 160, [.int .u64 0, .int .u64 0, .int .u64 0, .int .u64 0, .int .u64 0, .int .u64 0, .int .u64 0, .int .u64 0, .int .u64 0, .int .u64 0, .int .u64 0, .int .u64 0, .int .u64 0, .int .u64 0, .int .u64 0, .int .u64 0, .int .u64 0, .int .u64 0, .int .u64 0, .int .u64 0], false⟩ := rfl
theorem look166 : look tyL 166 = some ⟨.int .u32, 1, 4, [.int .u32 0], false⟩ := rfl
theorem look167 : look tyL 167 = some ⟨.array 65 5, 65, 65, [.int .u8 0, .int .u8 0, .int .u8 0, .int .u8 0, .int .u8 0, .int .u8 0, .int .u8 0, .int .u8 0, .int .u8 0, .int .u8 0, .int .u8 0, .int .u8 0, .int .u8 0, .int .u8 0, .int .u8 0, .int .u8 0, .int .u8 0, .int .u8 0, .int .u8 0, .int .u8 0, .int .u8 0, .int .u8 0, .int .u8 0, .int .u8 0, .int .u8 0, .int .u8 0, .int .u8 0, .int .u8 0, .int .u8 0, .int .u8 0, .int .u8 0, .int .u8 0, .int .u8 0, .int .u8 0, .int .u8 0, .int .u8 0, .int .u8 0, .int .u8 0, .int .u8 0, .int .u8 0, .int .u8 0, .int .u8 0, .int .u8 0, .int .u8 0, .int .u8 0, .int .u8 0, .int .u8 0, .int .u8 0, .int .u8 0, .int .u8 0, .int .u8 0, .int .u8 0, .int .u8 0, .int .u8 0, .int .u8 0, .int .u8 0, .int .u8 0, .int .u8 0, .int .u8 0, .int .u8 0, .int .u8 0, .int .u8 0, .int .u8 0, .int .u8 0, .int .u8 0], false⟩ := rfl
theorem look168 : look tyL 168 = some ⟨.int .u64, 1, 8, [.int .u64 0], false⟩ := rfl
theorem look169 : look tyL 169 = some ⟨.func, 1, 8, [.nilFunc], false⟩ := rfl
theorem look170 : look tyL 170 = some ⟨.func, 1, 8, [.nilFunc], false⟩ := rfl
theorem look171 : look tyL 171 = some ⟨.func, 1, 8, [.nilFunc], false⟩ := rfl
theorem look172 : look tyL 172 = some ⟨.array 32 5, 32, 32, [.int .u8 0, .int .u8 0, .int .u8 0, .int .u8 0, .int .u8 0, .int .u8 0, .int .u8 0, .int .u8 0, .int .u8 0, .int .u8 0, .int .u8 0, .int .u8 0, .int .u8 0, .int .u8 0, .int .u8 0, .int .u8 0, .int .u8 0, .int .u8 0, .int .u8 0, .int .u8 0, .int .u8 0, .int .u8 0, .int .u8 0, .int .u8 0, .int .u8 0, .int .u8 0, .int .u8 0, .int .u8 0, .int .u8 0, .int .u8 0, .int .u8 0, .int .u8 0], false⟩ := rfl
theorem look173 : look tyL 173 = some ⟨.array 64 5, 64, 64, [.int .u8 0, .int .u8 0, .int .u8 0, .int .u8 0, .int .u8 0, .int .u8 0, .int .u8 0, .int .u8 0, .int .u8 0, .int .u8 0, .int .u8 0, .int .u8 0, .int .u8 0, .int .u8 0, .int .u8 0, .int .u8 0, .int .u8 0, .int .u8 0, .int .u8 0, .int .u8 0, .int .u8 0, .int .u8 0, .int .u8 0, .int .u8 0, .int .u8 0, .int .u8 0, .int .u8 0, .int .u8 0, .int .u8 0, .int .u8 0, .int .u8 0, .int .u8 0, .int .u8 0, .int .u8 0, .int .u8 0, .int .u8 0, .int .u8 0, .int .u8 0, .int .u8 0, .int .u8 0, .int .u8 0, .int .u8 0, .int .u8 0, .int .u8 0, .int .u8 0, .int .u8 0, .int .u8 0, .int .u8 0, .int .u8 0, .int .u8 0, .int .u8 0, .int .u8 0, .int .u8 0, .int .u8 0, .int .u8 0, .int .u8 0, .int .u8 0, .int .u8 0, .int .u8 0, .int .u8 0, .int .u8 0, .int .u8 0, .int .u8 0, .int .u8 0], false⟩ := rfl
theorem look174 : look tyL 174 = some ⟨.struct [(0, 17), (1, 17), (2, 17), (3, 9)], 4, 40, [.pointer none, .pointer none, .pointer none, .string .empty], false⟩ := rfl
theorem look175 : look tyL 175 = some ⟨.struct [(0, 17), (1, 17), (2, 17), (3, 9)], 4, 40, [.pointer none, .pointer none, .pointer none, .string .empty], false⟩ := rfl
theorem look179 : look tyL 179 = some ⟨.func, 1, 8, [.nilFunc], false⟩ := rfl
theorem look180 : look tyL 180 = some ⟨.int .u8, 1, 1, [.int .u8 0], false⟩ := rfl
theorem look181 : look tyL 181 = some ⟨.int .u8, 1, 1, [.int .u8 0], false⟩ := rfl
theorem look182 : look tyL 182 = some ⟨.func, 1, 8, [.nilFunc], false⟩ := rfl
theorem look183 : look tyL 183 = some ⟨.int .i32, 1, 4, [.int .i32 0], false⟩ := rfl
theorem look184 : look tyL 184 = some ⟨.int .i32, 1, 4, [.int .i32 0], false⟩ := rfl
theorem look185 : look tyL 185 = some ⟨.struct [(0, 12), (1, 12), (2, 166), (3, 180), (4, 5), (5, 5), (6, 181), (7, 182), (8, 114), (9, 183), (10, 184)], 11, 48, [.int .u64 0, .int .u64 0, .int .u32 0, .int .u8 0, .int .u8 0, .int .u8 0, .int .u8 0, .nilFunc, .pointer none, .int .i32 0, .int .i32 0], false⟩ := rfl
theorem look186 : look tyL 186 = some ⟨.struct [(0, 12), (1, 12), (2, 166), (3, 180), (4, 5), (5, 5), (6, 181), (7, 182), (8, 114), (9, 183), (10, 184)], 11, 48, [.int .u64 0, .int .u64 0, .int .u32 0, .int .u8 0, .int .u8 0, .int .u8 0, .int .u8 0, .nilFunc, .pointer none, .int .i32 0, .int .i32 0], false⟩ := rfl
end Go.Pm
/- The program of this seat for the abstract machine, with what its package-level variables hold. -/
set_option linter.unusedVariables false
namespace Go.Pm
def kwBytes : List (List UInt8) := [[97, 110, 100], [98, 111, 111, 108], [101, 108, 115, 101], [102, 97, 108, 115, 101], [102, 98, 121], [105, 102], [105, 110, 116], [108, 101, 116], [109, 101, 114, 103, 101], [109, 111, 100], [110, 111, 100, 101], [110, 111, 116], [111, 114], [114, 101, 116, 117, 114, 110, 115], [116, 101, 108], [116, 104, 101, 110], [116, 114, 117, 101], [118, 97, 114], [119, 104, 101, 110], [119, 104, 101, 110, 111, 116], [120, 111, 114]]
def kwS : List ByteArray := kwBytes.map fun l => ⟨l.toArray⟩
def ctBytes : List (Int × List UInt8) := [(4, [110, 101, 103]), (5, [110, 111, 116]), (6, [43]), (7, [45]), (8, [42]), (9, [47]), (10, [109, 111, 100]), (11, [61]), (12, [60, 62]), (13, [60]), (14, [60, 61]), (15, [62]), (16, [62, 61]), (17, [97, 110, 100]), (18, [111, 114]), (19, [120, 111, 114]), (20, [63])]
def ctS : List (Int × ByteArray) := ctBytes.map fun y => (y.1, ⟨y.2.toArray⟩)
def ctMap : List (Value × D) := ctS.map fun y => (.int .i64 y.1, .s (.string y.2))
def pow10L : List Int := (List.range 20).map fun k => (10 : Int) ^ k
def gl (g : Nat) : Option (List D) := if g = 1 then some [.mp .string (wordMap kwS)] else if g = 0 then some [.mp (.int .i64) ctMap] else if g = 2 then some (pow10L.map fun n => .s (.int .u64 n)) else none
noncomputable def X : Cfg := mkCfg Go.Proofs.Tryz.prog gl tyL tyL_ok
theorem X_mixed : X.P.follows .mixedOrders = true := by kernel_rfl
@[simp] theorem X_T (t : TypeId) : X.T t = look tyL t := rfl
@[simp] theorem X_G (g : Nat) : X.G g = gl g := rfl
end Go.Pm
