/- Part of the proof: Ty. -/
import Derived.Test.YtdjanhhljinokaaGreatDoorProg
import Derived.Test.YtdjanhhljinokaaGreatDoorT4
import Derived.Test.YtdjanhhljinokaaGreatDoorT8
import Derived.Test.YtdjanhhljinokaaGreatDoorT6
import Derived.MakeChecks
import Derived.Test.YtdjanhhljinokaaGreatDoorRows
set_option linter.unusedVariables false
set_option linter.unusedSimpArgs false
namespace Go.Pm
def tyL:List (Option TI):=[
 none,
 some ⟨.func,1,8,[.nilFunc],false⟩,
 some ⟨.int .i64,1,8,[.int .i64 0],false⟩,
 some ⟨.int .i64,1,8,[.int .i64 0],false⟩,
 some ⟨.bool,1,1,[.bool false],false⟩,
 some ⟨.int .u8,1,1,[.int .u8 0],false⟩,
 some ⟨.int .u8,1,1,[.int .u8 0],false⟩,
 some ⟨.struct [(0,2),(1,3),(2,4),(3,6)],4,24,[.int .i64 0,.int .i64 0,.bool false,.int .u8 0],false⟩,
 some ⟨.struct [(0,2),(1,3),(2,4),(3,6)],4,24,[.int .i64 0,.int .i64 0,.bool false,.int .u8 0],false⟩,
 some ⟨.string,1,16,[.string .empty],false⟩,
 some ⟨.string,1,16,[.string .empty],false⟩,
 some ⟨.string,1,16,[.string .empty],false⟩,
 some ⟨.int .u64,1,8,[.int .u64 0],false⟩,
 some ⟨.struct [(0,9),(1,12)],2,24,[.string .empty,.int .u64 0],false⟩,
 some ⟨.struct [(0,9),(1,12)],2,24,[.string .empty,.int .u64 0],false⟩,
 some ⟨.ptr 279,1,8,[.pointer none],false⟩,
 some ⟨.ptr 282,1,8,[.pointer none],false⟩,
 some ⟨.ptr 290,1,8,[.pointer none],false⟩,
 some ⟨.struct [(0,17)],1,8,[.pointer none],false⟩,
 some ⟨.struct [(0,17)],1,8,[.pointer none],false⟩,
 some ⟨.iface,1,16,[.nilIface],false⟩,
 some ⟨.int .i32,1,4,[.int .i32 0],false⟩,
 some ⟨.slice 121,1,24,[.slice none 0 0],false⟩,
 some ⟨.struct [(0,22)],1,24,[.slice none 0 0],false⟩,
 some ⟨.struct [(0,22)],1,24,[.slice none 0 0],false⟩,
 some ⟨.slice 3,1,24,[.slice none 0 0],false⟩,
 some ⟨.func,1,8,[.nilFunc],false⟩,
 none,
 some ⟨.func,1,8,[.nilFunc],false⟩,
 some ⟨.slice 53,1,24,[.slice none 0 0],false⟩,
 some ⟨.struct [(0,29)],1,24,[.slice none 0 0],false⟩,
 some ⟨.struct [(0,29)],1,24,[.slice none 0 0],false⟩,
 some ⟨.func,1,8,[.nilFunc],false⟩,
 some ⟨.func,1,8,[.nilFunc],false⟩,
 some ⟨.func,1,8,[.nilFunc],false⟩,
 some ⟨.func,1,8,[.nilFunc],false⟩,
 some ⟨.func,1,8,[.nilFunc],false⟩,
 some ⟨.func,1,8,[.nilFunc],false⟩,
 some ⟨.func,1,8,[.nilFunc],false⟩,
 some ⟨.func,1,8,[.nilFunc],false⟩,
 some ⟨.func,1,8,[.nilFunc],false⟩,
 none,
 some ⟨.func,1,8,[.nilFunc],false⟩,
 some ⟨.func,1,8,[.nilFunc],false⟩,
 some ⟨.func,1,8,[.nilFunc],false⟩,
 some ⟨.func,1,8,[.nilFunc],false⟩,
 some ⟨.func,1,8,[.nilFunc],false⟩,
 some ⟨.func,1,8,[.nilFunc],false⟩,
 some ⟨.func,1,8,[.nilFunc],false⟩,
 some ⟨.slice 88,1,24,[.slice none 0 0],false⟩,
 some ⟨.slice 9,1,24,[.slice none 0 0],false⟩,
 some ⟨.slice 96,1,24,[.slice none 0 0],false⟩,
 some ⟨.struct [(0,9),(1,49),(2,49),(3,50),(4,25),(5,25),(6,51)],7,160,[.string .empty,.slice none 0 0,.slice none 0 0,.slice none 0 0,.slice none 0 0,.slice none 0 0,.slice none 0 0],false⟩,
 some ⟨.struct [(0,9),(1,49),(2,49),(3,50),(4,25),(5,25),(6,51)],7,160,[.string .empty,.slice none 0 0,.slice none 0 0,.slice none 0 0,.slice none 0 0,.slice none 0 0,.slice none 0 0],false⟩,
 some ⟨.func,1,8,[.nilFunc],false⟩,
 some ⟨.func,1,8,[.nilFunc],false⟩,
 some ⟨.ptr 64,1,8,[.pointer none],false⟩,
 none,
 some ⟨.func,1,8,[.nilFunc],false⟩,
 some ⟨.struct [(0,25),(1,25)],2,48,[.slice none 0 0,.slice none 0 0],false⟩,
 some ⟨.struct [(0,25),(1,25)],2,48,[.slice none 0 0,.slice none 0 0],false⟩,
 some ⟨.ptr 60,1,8,[.pointer none],false⟩,
 some ⟨.slice 76,1,24,[.slice none 0 0],false⟩,
 some ⟨.struct [(0,31),(1,61),(2,62),(3,3)],4,64,[.slice none 0 0,.pointer none,.slice none 0 0,.int .i64 0],false⟩,
 some ⟨.struct [(0,31),(1,61),(2,62),(3,3)],4,64,[.slice none 0 0,.pointer none,.slice none 0 0,.int .i64 0],false⟩,
 some ⟨.slice 25,1,24,[.slice none 0 0],false⟩,
 some ⟨.func,1,8,[.nilFunc],false⟩,
 some ⟨.slice 2,1,24,[.slice none 0 0],false⟩,
 some ⟨.func,1,8,[.nilFunc],false⟩,
 some ⟨.func,1,8,[.nilFunc],false⟩,
 some ⟨.func,1,8,[.nilFunc],false⟩,
 some ⟨.func,1,8,[.nilFunc],false⟩,
 some ⟨.func,1,8,[.nilFunc],false⟩,
 some ⟨.func,1,8,[.nilFunc],false⟩,
 none,
 some ⟨.func,1,8,[.nilFunc],false⟩,
 some ⟨.slice 131,1,24,[.slice none 0 0],false⟩,
 none,
 some ⟨.func,1,8,[.nilFunc],false⟩,
 some ⟨.func,1,8,[.nilFunc],false⟩,
 some ⟨.func,1,8,[.nilFunc],false⟩,
 some ⟨.func,1,8,[.nilFunc],false⟩,
 some ⟨.func,1,8,[.nilFunc],false⟩,
 some ⟨.func,1,8,[.nilFunc],false⟩,
 some ⟨.ptr 53,1,8,[.pointer none],false⟩,
 some ⟨.map 9 3,1,8,[.map none],false⟩,
 some ⟨.func,1,8,[.nilFunc],false⟩,
 some ⟨.struct [(0,9),(1,3)],2,24,[.string .empty,.int .i64 0],false⟩,
 some ⟨.struct [(0,9),(1,3)],2,24,[.string .empty,.int .i64 0],true⟩,
 none,
 some ⟨.func,1,8,[.nilFunc],false⟩,
 some ⟨.slice 156,1,24,[.slice none 0 0],false⟩,
 none,
 some ⟨.func,1,8,[.nilFunc],false⟩,
 some ⟨.slice 91,1,24,[.slice none 0 0],false⟩,
 some ⟨.struct [(0,3),(1,9),(2,3),(3,50),(4,91),(5,94)],6,104,[.int .i64 0,.string .empty,.int .i64 0,.slice none 0 0,.slice none 0 0,.slice none 0 0],false⟩,
 some ⟨.struct [(0,3),(1,9),(2,3),(3,50),(4,91),(5,94)],6,104,[.int .i64 0,.string .empty,.int .i64 0,.slice none 0 0,.slice none 0 0,.slice none 0 0],false⟩,
 some ⟨.func,1,8,[.nilFunc],false⟩,
 none,
 some ⟨.func,1,8,[.nilFunc],false⟩,
 some ⟨.func,1,8,[.nilFunc],false⟩,
 some ⟨.func,1,8,[.nilFunc],false⟩,
 some ⟨.func,1,8,[.nilFunc],false⟩,
 some ⟨.func,1,8,[.nilFunc],false⟩,
 none,
 some ⟨.func,1,8,[.nilFunc],false⟩,
 some ⟨.func,1,8,[.nilFunc],false⟩,
 some ⟨.ptr 110,1,8,[.pointer none],false⟩,
 some ⟨.slice 5,1,24,[.slice none 0 0],false⟩,
 some ⟨.struct [(0,107),(1,108)],2,32,[.pointer none,.slice none 0 0],false⟩,
 some ⟨.struct [(0,107),(1,108)],2,32,[.pointer none,.slice none 0 0],false⟩,
 some ⟨.iface,1,16,[.nilIface],false⟩,
 some ⟨.iface,1,16,[.nilIface],false⟩,
 none,
 some ⟨.func,1,8,[.nilFunc],false⟩,
 some ⟨.func,1,8,[.nilFunc],false⟩,
 some ⟨.func,1,8,[.nilFunc],false⟩,
 some ⟨.func,1,8,[.nilFunc],false⟩,
 some ⟨.slice 206,1,24,[.slice none 0 0],false⟩,
 some ⟨.slice 211,1,24,[.slice none 0 0],false⟩,
 some ⟨.struct [(0,9),(1,118),(2,118),(3,50),(4,25),(5,25),(6,119)],7,160,[.string .empty,.slice none 0 0,.slice none 0 0,.slice none 0 0,.slice none 0 0,.slice none 0 0,.slice none 0 0],false⟩,
 some ⟨.struct [(0,9),(1,118),(2,118),(3,50),(4,25),(5,25),(6,119)],7,160,[.string .empty,.slice none 0 0,.slice none 0 0,.slice none 0 0,.slice none 0 0,.slice none 0 0,.slice none 0 0],false⟩,
 some ⟨.func,1,8,[.nilFunc],false⟩,
 some ⟨.func,1,8,[.nilFunc],false⟩,
 some ⟨.ptr 171,1,8,[.pointer none],false⟩,
 some ⟨.func,1,8,[.nilFunc],false⟩,
 some ⟨.func,1,8,[.nilFunc],false⟩,
 none,
 some ⟨.func,1,8,[.nilFunc],false⟩,
 some ⟨.map 9 2,1,8,[.map none],false⟩,
 some ⟨.func,1,8,[.nilFunc],false⟩,
 some ⟨.ptr 133,1,8,[.pointer none],false⟩,
 some ⟨.struct [(0,96),(6,76),(7,76)],8,152,[.int .i64 0,.string .empty,.int .i64 0,.slice none 0 0,.slice none 0 0,.slice none 0 0,.slice none 0 0,.slice none 0 0],false⟩,
 some ⟨.struct [(0,96),(6,76),(7,76)],8,152,[.int .i64 0,.string .empty,.int .i64 0,.slice none 0 0,.slice none 0 0,.slice none 0 0,.slice none 0 0,.slice none 0 0],false⟩,
 some ⟨.func,1,8,[.nilFunc],false⟩,
 some ⟨.func,1,8,[.nilFunc],false⟩,
 some ⟨.func,1,8,[.nilFunc],false⟩,
 some ⟨.func,1,8,[.nilFunc],false⟩,
 some ⟨.func,1,8,[.nilFunc],false⟩,
 some ⟨.func,1,8,[.nilFunc],false⟩,
 none,
 some ⟨.func,1,8,[.nilFunc],false⟩,
 some ⟨.slice 143,1,24,[.slice none 0 0],false⟩,
 some ⟨.ptr 145,1,8,[.pointer none],false⟩,
 some ⟨.struct [(0,131),(1,4)],2,16,[.pointer none,.bool false],false⟩,
 some ⟨.struct [(0,131),(1,4)],2,16,[.pointer none,.bool false],false⟩,
 some ⟨.func,1,8,[.nilFunc],false⟩,
 some ⟨.func,1,8,[.nilFunc],false⟩,
 some ⟨.func,1,8,[.nilFunc],false⟩,
 some ⟨.func,1,8,[.nilFunc],false⟩,
 some ⟨.func,1,8,[.nilFunc],false⟩,
 some ⟨.func,1,8,[.nilFunc],false⟩,
 some ⟨.func,1,8,[.nilFunc],false⟩,
 some ⟨.func,1,8,[.nilFunc],false⟩,
 some ⟨.map 3 9,1,8,[.map none],false⟩,
 some ⟨.struct [(0,3),(1,3),(2,9)],3,32,[.int .i64 0,.int .i64 0,.string .empty],false⟩,
 some ⟨.struct [(0,3),(1,3),(2,9)],3,32,[.int .i64 0,.int .i64 0,.string .empty],true⟩,
 some ⟨.func,1,8,[.nilFunc],false⟩,
 some ⟨.func,1,8,[.nilFunc],false⟩,
 some ⟨.func,1,8,[.nilFunc],false⟩,
 none,
 some ⟨.func,1,8,[.nilFunc],false⟩,
 some ⟨.func,1,8,[.nilFunc],false⟩,
 some ⟨.ptr 5,1,8,[.pointer none],false⟩,
 some ⟨.func,1,8,[.nilFunc],false⟩,
 some ⟨.func,1,8,[.nilFunc],false⟩,
 some ⟨.ptr 168,1,8,[.pointer none],false⟩,
 some ⟨.struct [(0,31),(1,124),(2,3),(3,53),(10,25),(11,25),(12,3)],13,256,[.slice none 0 0,.pointer none,.int .i64 0,.string .empty,.slice none 0 0,.slice none 0 0,.slice none 0 0,.slice none 0 0,.slice none 0 0,.slice none 0 0,.slice none 0 0,.slice none 0 0,.int .i64 0],false⟩,
 some ⟨.struct [(0,31),(1,124),(2,3),(3,53),(10,25),(11,25),(12,3)],13,256,[.slice none 0 0,.pointer none,.int .i64 0,.string .empty,.slice none 0 0,.slice none 0 0,.slice none 0 0,.slice none 0 0,.slice none 0 0,.slice none 0 0,.slice none 0 0,.slice none 0 0,.int .i64 0],false⟩,
 some ⟨.slice 50,1,24,[.slice none 0 0],false⟩,
 some ⟨.struct [(0,169),(1,65),(2,65),(3,25)],4,96,[.slice none 0 0,.slice none 0 0,.slice none 0 0,.slice none 0 0],false⟩,
 some ⟨.struct [(0,169),(1,65),(2,65),(3,25)],4,96,[.slice none 0 0,.slice none 0 0,.slice none 0 0,.slice none 0 0],false⟩,
 some ⟨.func,1,8,[.nilFunc],false⟩,
 some ⟨.func,1,8,[.nilFunc],false⟩,
 some ⟨.func,1,8,[.nilFunc],false⟩,
 some ⟨.func,1,8,[.nilFunc],false⟩,
 some ⟨.func,1,8,[.nilFunc],false⟩,
 some ⟨.map 9 4,1,8,[.map none],false⟩,
 some ⟨.func,1,8,[.nilFunc],false⟩,
 some ⟨.slice 49,1,24,[.slice none 0 0],false⟩,
 some ⟨.func,1,8,[.nilFunc],false⟩,
 some ⟨.func,1,8,[.nilFunc],false⟩,
 some ⟨.func,1,8,[.nilFunc],false⟩,
 some ⟨.func,1,8,[.nilFunc],false⟩,
 some ⟨.func,1,8,[.nilFunc],false⟩,
 some ⟨.func,1,8,[.nilFunc],false⟩,
 some ⟨.func,1,8,[.nilFunc],false⟩,
 some ⟨.func,1,8,[.nilFunc],false⟩,
 some ⟨.func,1,8,[.nilFunc],false⟩,
 some ⟨.func,1,8,[.nilFunc],false⟩,
 some ⟨.func,1,8,[.nilFunc],false⟩,
 some ⟨.func,1,8,[.nilFunc],false⟩,
 some ⟨.func,1,8,[.nilFunc],false⟩,
 some ⟨.func,1,8,[.nilFunc],false⟩,
 some ⟨.func,1,8,[.nilFunc],false⟩,
 some ⟨.func,1,8,[.nilFunc],false⟩,
 some ⟨.func,1,8,[.nilFunc],false⟩,
 some ⟨.func,1,8,[.nilFunc],false⟩,
 some ⟨.func,1,8,[.nilFunc],false⟩,
 some ⟨.func,1,8,[.nilFunc],false⟩,
 some ⟨.func,1,8,[.nilFunc],false⟩,
 some ⟨.func,1,8,[.nilFunc],false⟩,
 none,
 some ⟨.func,1,8,[.nilFunc],false⟩,
 some ⟨.func,1,8,[.nilFunc],false⟩,
 some ⟨.func,1,8,[.nilFunc],false⟩,
 some ⟨.struct [(0,9),(1,3)],2,24,[.string .empty,.int .i64 0],false⟩,
 some ⟨.func,1,8,[.nilFunc],false⟩,
 some ⟨.slice 260,1,24,[.slice none 0 0],false⟩,
 some ⟨.slice 208,1,24,[.slice none 0 0],false⟩,
 some ⟨.struct [(0,3),(1,9),(2,3),(3,50),(4,208),(5,209)],6,104,[.int .i64 0,.string .empty,.int .i64 0,.slice none 0 0,.slice none 0 0,.slice none 0 0],false⟩,
 some ⟨.struct [(0,3),(1,9),(2,3),(3,50),(4,208),(5,209)],6,104,[.int .i64 0,.string .empty,.int .i64 0,.slice none 0 0,.slice none 0 0,.slice none 0 0],false⟩,
 some ⟨.func,1,8,[.nilFunc],false⟩,
 some ⟨.func,1,8,[.nilFunc],false⟩,
 some ⟨.func,1,8,[.nilFunc],false⟩,
 some ⟨.func,1,8,[.nilFunc],false⟩,
 some ⟨.func,1,8,[.nilFunc],false⟩,
 some ⟨.func,1,8,[.nilFunc],false⟩,
 some ⟨.func,1,8,[.nilFunc],false⟩,
 some ⟨.func,1,8,[.nilFunc],false⟩,
 some ⟨.func,1,8,[.nilFunc],false⟩,
 some ⟨.func,1,8,[.nilFunc],false⟩,
 some ⟨.func,1,8,[.nilFunc],false⟩,
 none,
 some ⟨.func,1,8,[.nilFunc],false⟩,
 some ⟨.func,1,8,[.nilFunc],false⟩,
 some ⟨.int .i64,1,8,[.int .i64 0],false⟩,
 none,
 some ⟨.func,1,8,[.nilFunc],false⟩,
 some ⟨.ptr 252,1,8,[.pointer none],false⟩,
 some ⟨.func,1,8,[.nilFunc],false⟩,
 some ⟨.func,1,8,[.nilFunc],false⟩,
 some ⟨.array 24 5,24,24,[.int .u8 0,.int .u8 0,.int .u8 0,.int .u8 0,.int .u8 0,.int .u8 0,.int .u8 0,.int .u8 0,.int .u8 0,.int .u8 0,.int .u8 0,.int .u8 0,.int .u8 0,.int .u8 0,.int .u8 0,.int .u8 0,.int .u8 0,.int .u8 0,.int .u8 0,.int .u8 0,.int .u8 0,.int .u8 0,.int .u8 0,.int .u8 0],false⟩,
 some ⟨.int .u64,1,8,[.int .u64 0],false⟩,
 some ⟨.func,1,8,[.nilFunc],false⟩,
 some ⟨.func,1,8,[.nilFunc],false⟩,
 none,
 some ⟨.func,1,8,[.nilFunc],false⟩,
 some ⟨.func,1,8,[.nilFunc],false⟩,
 some ⟨.func,1,8,[.nilFunc],false⟩,
 some ⟨.func,1,8,[.nilFunc],false⟩,
 some ⟨.func,1,8,[.nilFunc],false⟩,
 some ⟨.func,1,8,[.nilFunc],false⟩,
 some ⟨.func,1,8,[.nilFunc],false⟩,
 some ⟨.func,1,8,[.nilFunc],false⟩,
 some ⟨.func,1,8,[.nilFunc],false⟩,
 some ⟨.func,1,8,[.nilFunc],false⟩,
 some ⟨.int .u64,1,8,[.int .u64 0],false⟩,
 none,
 some ⟨.func,1,8,[.nilFunc],false⟩,
 some ⟨.func,1,8,[.nilFunc],false⟩,
 some ⟨.struct [(0,9),(1,9),(2,112)],3,48,[.string .empty,.string .empty,.nilIface],false⟩,
 some ⟨.struct [(0,9),(1,9),(2,112)],3,48,[.string .empty,.string .empty,.nilIface],false⟩,
 some ⟨.func,1,8,[.nilFunc],false⟩,
 some ⟨.array 20 233,20,160,[.int .u64 0,.int .u64 0,.int .u64 0,.int .u64 0,.int .u64 0,.int .u64 0,.int .u64 0,.int .u64 0,.int .u64 0,.int .u64 0,.int .u64 0,.int .u64 0,.int .u64 0,.int .u64 0,.int .u64 0,.int .u64 0,.int .u64 0,.int .u64 0,.int .u64 0,.int .u64 0],false⟩,
 some ⟨.int .u32,1,4,[.int .u32 0],false⟩,
 some ⟨.array 65 5,65,65,[.int .u8 0,.int .u8 0,.int .u8 0,.int .u8 0,.int .u8 0,.int .u8 0,.int .u8 0,.int .u8 0,.int .u8 0,.int .u8 0,.int .u8 0,.int .u8 0,.int .u8 0,.int .u8 0,.int .u8 0,.int .u8 0,.int .u8 0,.int .u8 0,.int .u8 0,.int .u8 0,.int .u8 0,.int .u8 0,.int .u8 0,.int .u8 0,.int .u8 0,.int .u8 0,.int .u8 0,.int .u8 0,.int .u8 0,.int .u8 0,.int .u8 0,.int .u8 0,.int .u8 0,.int .u8 0,.int .u8 0,.int .u8 0,.int .u8 0,.int .u8 0,.int .u8 0,.int .u8 0,.int .u8 0,.int .u8 0,.int .u8 0,.int .u8 0,.int .u8 0,.int .u8 0,.int .u8 0,.int .u8 0,.int .u8 0,.int .u8 0,.int .u8 0,.int .u8 0,.int .u8 0,.int .u8 0,.int .u8 0,.int .u8 0,.int .u8 0,.int .u8 0,.int .u8 0,.int .u8 0,.int .u8 0,.int .u8 0,.int .u8 0,.int .u8 0,.int .u8 0],false⟩,
 some ⟨.func,1,8,[.nilFunc],false⟩,
 some ⟨.func,1,8,[.nilFunc],false⟩,
 some ⟨.func,1,8,[.nilFunc],false⟩,
 some ⟨.struct [(0,3),(1,3),(2,9)],3,32,[.int .i64 0,.int .i64 0,.string .empty],false⟩,
 some ⟨.func,1,8,[.nilFunc],false⟩,
 some ⟨.func,1,8,[.nilFunc],false⟩,
 none,
 some ⟨.func,1,8,[.nilFunc],false⟩,
 some ⟨.array 256 5,256,256,[.int .u8 0,.int .u8 0,.int .u8 0,.int .u8 0,.int .u8 0,.int .u8 0,.int .u8 0,.int .u8 0,.int .u8 0,.int .u8 0,.int .u8 0,.int .u8 0,.int .u8 0,.int .u8 0,.int .u8 0,.int .u8 0,.int .u8 0,.int .u8 0,.int .u8 0,.int .u8 0,.int .u8 0,.int .u8 0,.int .u8 0,.int .u8 0,.int .u8 0,.int .u8 0,.int .u8 0,.int .u8 0,.int .u8 0,.int .u8 0,.int .u8 0,.int .u8 0,.int .u8 0,.int .u8 0,.int .u8 0,.int .u8 0,.int .u8 0,.int .u8 0,.int .u8 0,.int .u8 0,.int .u8 0,.int .u8 0,.int .u8 0,.int .u8 0,.int .u8 0,.int .u8 0,.int .u8 0,.int .u8 0,.int .u8 0,.int .u8 0,.int .u8 0,.int .u8 0,.int .u8 0,.int .u8 0,.int .u8 0,.int .u8 0,.int .u8 0,.int .u8 0,.int .u8 0,.int .u8 0,.int .u8 0,.int .u8 0,.int .u8 0,.int .u8 0,.int .u8 0,.int .u8 0,.int .u8 0,.int .u8 0,.int .u8 0,.int .u8 0,.int .u8 0,.int .u8 0,.int .u8 0,.int .u8 0,.int .u8 0,.int .u8 0,.int .u8 0,.int .u8 0,.int .u8 0,.int .u8 0,.int .u8 0,.int .u8 0,.int .u8 0,.int .u8 0,.int .u8 0,.int .u8 0,.int .u8 0,.int .u8 0,.int .u8 0,.int .u8 0,.int .u8 0,.int .u8 0,.int .u8 0,.int .u8 0,.int .u8 0,.int .u8 0,.int .u8 0,.int .u8 0,.int .u8 0,.int .u8 0,.int .u8 0,.int .u8 0,.int .u8 0,.int .u8 0,.int .u8 0,.int .u8 0,.int .u8 0,.int .u8 0,.int .u8 0,.int .u8 0,.int .u8 0,.int .u8 0,.int .u8 0,.int .u8 0,.int .u8 0,.int .u8 0,.int .u8 0,.int .u8 0,.int .u8 0,.int .u8 0,.int .u8 0,.int .u8 0,.int .u8 0,.int .u8 0,.int .u8 0,.int .u8 0,.int .u8 0,.int .u8 0,.int .u8 0,.int .u8 0,.int .u8 0,.int .u8 0,.int .u8 0,.int .u8 0,.int .u8 0,.int .u8 0,.int .u8 0,.int .u8 0,.int .u8 0,.int .u8 0,.int .u8 0,.int .u8 0,.int .u8 0,.int .u8 0,.int .u8 0,.int .u8 0,.int .u8 0,.int .u8 0,.int .u8 0,.int .u8 0,.int .u8 0,.int .u8 0,.int .u8 0,.int .u8 0,.int .u8 0,.int .u8 0,.int .u8 0,.int .u8 0,.int .u8 0,.int .u8 0,.int .u8 0,.int .u8 0,.int .u8 0,.int .u8 0,.int .u8 0,.int .u8 0,.int .u8 0,.int .u8 0,.int .u8 0,.int .u8 0,.int .u8 0,.int .u8 0,.int .u8 0,.int .u8 0,.int .u8 0,.int .u8 0,.int .u8 0,.int .u8 0,.int .u8 0,.int .u8 0,.int .u8 0,.int .u8 0,.int .u8 0,.int .u8 0,.int .u8 0,.int .u8 0,.int .u8 0,.int .u8 0,.int .u8 0,.int .u8 0,.int .u8 0,.int .u8 0,.int .u8 0,.int .u8 0,.int .u8 0,.int .u8 0,.int .u8 0,.int .u8 0,.int .u8 0,.int .u8 0,.int .u8 0,.int .u8 0,.int .u8 0,.int .u8 0,.int .u8 0,.int .u8 0,.int .u8 0,.int .u8 0,.int .u8 0,.int .u8 0,.int .u8 0,.int .u8 0,.int .u8 0,.int .u8 0,.int .u8 0,.int .u8 0,.int .u8 0,.int .u8 0,.int .u8 0,.int .u8 0,.int .u8 0,.int .u8 0,.int .u8 0,.int .u8 0,.int .u8 0,.int .u8 0,.int .u8 0,.int .u8 0,.int .u8 0,.int .u8 0,.int .u8 0,.int .u8 0,.int .u8 0,.int .u8 0,.int .u8 0,.int .u8 0,.int .u8 0,.int .u8 0,.int .u8 0,.int .u8 0,.int .u8 0,.int .u8 0,.int .u8 0,.int .u8 0,.int .u8 0,.int .u8 0,.int .u8 0,.int .u8 0,.int .u8 0,.int .u8 0,.int .u8 0,.int .u8 0,.int .u8 0,.int .u8 0,.int .u8 0,.int .u8 0],false⟩,
 some ⟨.struct [(0,5),(1,5)],2,2,[.int .u8 0,.int .u8 0],false⟩,
 some ⟨.struct [(0,5),(1,5)],2,2,[.int .u8 0,.int .u8 0],false⟩,
 some ⟨.array 16 267,32,32,[.int .u8 0,.int .u8 0,.int .u8 0,.int .u8 0,.int .u8 0,.int .u8 0,.int .u8 0,.int .u8 0,.int .u8 0,.int .u8 0,.int .u8 0,.int .u8 0,.int .u8 0,.int .u8 0,.int .u8 0,.int .u8 0,.int .u8 0,.int .u8 0,.int .u8 0,.int .u8 0,.int .u8 0,.int .u8 0,.int .u8 0,.int .u8 0,.int .u8 0,.int .u8 0,.int .u8 0,.int .u8 0,.int .u8 0,.int .u8 0,.int .u8 0,.int .u8 0],false⟩,
 none,
 some ⟨.func,1,8,[.nilFunc],false⟩,
 some ⟨.func,1,8,[.nilFunc],false⟩,
 some ⟨.ptr 274,1,8,[.pointer none],false⟩,
 some ⟨.struct [(0,9)],1,16,[.string .empty],false⟩,
 some ⟨.struct [(0,9)],1,16,[.string .empty],false⟩,
 some ⟨.func,1,8,[.nilFunc],false⟩,
 some ⟨.array 32 5,32,32,[.int .u8 0,.int .u8 0,.int .u8 0,.int .u8 0,.int .u8 0,.int .u8 0,.int .u8 0,.int .u8 0,.int .u8 0,.int .u8 0,.int .u8 0,.int .u8 0,.int .u8 0,.int .u8 0,.int .u8 0,.int .u8 0,.int .u8 0,.int .u8 0,.int .u8 0,.int .u8 0,.int .u8 0,.int .u8 0,.int .u8 0,.int .u8 0,.int .u8 0,.int .u8 0,.int .u8 0,.int .u8 0,.int .u8 0,.int .u8 0,.int .u8 0,.int .u8 0],false⟩,
 some ⟨.array 64 5,64,64,[.int .u8 0,.int .u8 0,.int .u8 0,.int .u8 0,.int .u8 0,.int .u8 0,.int .u8 0,.int .u8 0,.int .u8 0,.int .u8 0,.int .u8 0,.int .u8 0,.int .u8 0,.int .u8 0,.int .u8 0,.int .u8 0,.int .u8 0,.int .u8 0,.int .u8 0,.int .u8 0,.int .u8 0,.int .u8 0,.int .u8 0,.int .u8 0,.int .u8 0,.int .u8 0,.int .u8 0,.int .u8 0,.int .u8 0,.int .u8 0,.int .u8 0,.int .u8 0,.int .u8 0,.int .u8 0,.int .u8 0,.int .u8 0,.int .u8 0,.int .u8 0,.int .u8 0,.int .u8 0,.int .u8 0,.int .u8 0,.int .u8 0,.int .u8 0,.int .u8 0,.int .u8 0,.int .u8 0,.int .u8 0,.int .u8 0,.int .u8 0,.int .u8 0,.int .u8 0,.int .u8 0,.int .u8 0,.int .u8 0,.int .u8 0,.int .u8 0,.int .u8 0,.int .u8 0,.int .u8 0,.int .u8 0,.int .u8 0,.int .u8 0,.int .u8 0],false⟩,
 some ⟨.struct [(0,17),(1,17),(2,17),(3,9)],4,40,[.pointer none,.pointer none,.pointer none,.string .empty],false⟩,
 some ⟨.struct [(0,17),(1,17),(2,17),(3,9)],4,40,[.pointer none,.pointer none,.pointer none,.string .empty],false⟩,
 none,
 none,
 none,
 some ⟨.func,1,8,[.nilFunc],false⟩,
 some ⟨.int .u8,1,1,[.int .u8 0],false⟩,
 some ⟨.int .u8,1,1,[.int .u8 0],false⟩,
 some ⟨.func,1,8,[.nilFunc],false⟩,
 some ⟨.int .i32,1,4,[.int .i32 0],false⟩,
 some ⟨.int .i32,1,4,[.int .i32 0],false⟩,
 some ⟨.struct [(0,12),(1,12),(2,255),(3,284),(4,5),(5,5),(6,285),(7,286),(8,163),(9,287),(10,288)],11,48,[.int .u64 0,.int .u64 0,.int .u32 0,.int .u8 0,.int .u8 0,.int .u8 0,.int .u8 0,.nilFunc,.pointer none,.int .i32 0,.int .i32 0],false⟩,
 some ⟨.struct [(0,12),(1,12),(2,255),(3,284),(4,5),(5,5),(6,285),(7,286),(8,163),(9,287),(10,288)],11,48,[.int .u64 0,.int .u64 0,.int .u32 0,.int .u8 0,.int .u8 0,.int .u8 0,.int .u8 0,.nilFunc,.pointer none,.int .i32 0,.int .i32 0],false⟩]
set_option maxRecDepth 100000 in
theorem Jca:checkAll Go.Proofs.Tryz.prog tyL tyL 0=true:=by kernel_rfl
-- types:1=func() 2=int64 3=int 4=bool 5=uint8 6=abi.BoundsErrorCode 8=runtime.boundsError 9=string 10=runtime.errorString 11=runtime.plainError 12=uintptr 13=struct_{_msg_string;_addr_uintptr_} 14=runtime.errorAddressString 15=RuntimeError 16=RuntimeError 17=Align 18=struct_{_typ_*abi.Type_} 19=maps.unhashableTypeError 20=interface_{} 21=int32 22=[]laws.Class 23=struct_{_Classes_[]laws.Class_} 24=laws.Machine 25=[]int 26=func(laws.Machine,_int)_int 28=func(impl.Machine,_int,_[]int,_[]int)_([]int,_[]int,_int) 29=[]impl.Class 30=struct_{_Classes_[]impl.Class_} 31=impl.Machine 32=func(laws.Machine)_impl.Machine 33=func([]int)_[]int 34=func([]int,_[]int)_bool 35=func(impl.Machine,_impl.Machine)_bool 36=func(impl.Machine,_int)_int 37=func([]int,_int)_int 38=func(laws.Machine,_int,_[]int,_[]int)_bool 39=func(impl.Machine)_impl.Machine 40=func(laws.Machine)_bool 42=func(string)_(impl.Machine,_int) 43=func(string)_bool 44=func(string,_string)_string 45=func(string,_string)_bool 46=func([]laws.Class,_int)_int 47=func(impl.Machine,_int)_bool 48=func(impl.Machine)_[]int 49=[]impl.Slot 50=[]string 51=[]impl.Stm 53=impl.Class 54=func([]int)_bool 55=func([]laws.Class)_[]impl.Class 56=loop.example/s0043/impl.step 58=func(impl.Machine)_(*impl.engine,_bool) 59=struct_{_cells_[]int;_bound_[]int_} 60=impl.sizes 61=*impl.sizes 62=[][]*impl.branch 64=impl.engine 65=[][]int 66=func(int)_bool 67=[]int64 68=func([]int)_[]int64 69=func(int,_[]int64,_[]int64)_[]int64 70=func([]int64)_[]int 71=func([]impl.Class,_[]impl.Class)_bool 72=func([]impl.Class,_int)_int 73=func(impl.Machine)_bool 75=func([]impl.Stm)_([]impl.Stm,_bool) 76=[]*impl.branch 78=func([]impl.Stm)_([]*impl.branch,_bool) 79=func([]*impl.branch,_[]impl.Stm)_[]impl.Stm 80=func([]*impl.branch)_[]*impl.branch 81=func(string)_impl.Machine 82=func(impl.Machine)_string 83=func()_(impl.Machine,_int) 84=*impl.Class 85=map[string]int 86=func(string,_string)_[]string 87=struct_{_Name_string;_Type_int_} 88=impl.Slot 90=func(string)_(int,_bool) 91=[]impl.Item 93=func([]string)_([]impl.Item,_bool) 94=[][]impl.Item 96=impl.Stm 97=func()_bool 99=func(string,_[]int)_([][]int,_int) 100=func([]impl.Slot)_[]int 101=func(int)_string 102=func(impl.Machine,_int)_[]int 103=func([][]int,_[]int)_string 105=func(string,_[]int)_([][]int,_int,_bool) 106=func(impl.Machine,_int,_[]int)_[]int 107=strings.grow 108=[]uint8 109=struct_{_addr_*strings.Builder;_buf_[]uint8_} 110=strings.Builder 111=interface_{_Error()_string_} 112=error 114=func(string)_(int,_error) 115=func([]int,_[]int)_string 116=func()_string 117=func(laws.Class,_int)_int 118=[]laws.Slot 119=[]laws.Stm 121=laws.Class 122=func(int)_int 124=*spec.l3Plan 125=func(impl.Machine)_*spec.l3Plan 126=func(laws.Class)_impl.Class 128=func(impl.Machine)_(*impl.sizes,_bool) 129=map[string]int64 130=func([]*impl.branch) 131=*impl.branch 133=impl.branch 134=func([]impl.Item,_map[string]int64,_[]int64)_int64 135=func(impl.Class,_impl.Class)_bool 136=func([]impl.Slot,_int)_int 137=func([]string,_int)_int 138=func([]impl.Stm,_int)_int 139=func([]impl.Item)_[]impl.Item 141=func([]impl.Stm,_int)_(int,_int) 142=[]*impl.open 143=*impl.open 144=struct_{_b_*impl.branch;_els_bool_} 145=impl.open 146=func(*impl.branch) 147=func(impl.Stm)_impl.Stm 148=func(string,_uint8)_[]string 149=func([]string,_string)_int 150=func(string)_int 151=func([]string)_[]impl.Item 152=func(impl.Stm)_string 153=func(string,_string,_int,_int)_[]string 154=map[int]string 155=struct_{_Op_int;_Val_int;_Name_string_} 156=impl.Item 157=func(string,_[]impl.Slot) 158=func(*strings.Builder,_[]impl.Item) 159=func(string,_int)_(int,_bool) 161=func(string,_[]int)_([]int,_bool) 162=func([]string,_string)_string 163=*uint8 164=func([]laws.Slot,_int)_int 165=func([]laws.Stm,_int)_int 166=loop.example/s0043/spec.put 168=spec.l3Run 169=[][]string 171=spec.l3Plan 172=func(int,_int) 173=func(impl.Class)_[]string 174=func([]laws.Slot)_[]impl.Slot 175=func([]string)_[]string 176=func([]laws.Stm)_[]impl.Stm 177=map[string]bool 178=func(string,_int)_bool 179=[][]impl.Slot 180=func([]impl.Item,_map[string]int,_int)_bool 181=func([]*impl.branch)_int 182=func(int64)_int64 183=func(bool)_int64 184=func(int,_int64,_int64)_int64 185=func([]impl.Slot,_[]impl.Slot)_bool 186=func([]string,_[]string)_bool 187=func([]impl.Stm,_[]impl.Stm)_bool 188=func([]impl.Item,_int)_int 189=func([][]impl.Item,_int)_int 190=func(impl.Machine,_impl.Class,_impl.Stm)_bool 191=func([]impl.Stm,_int)_bool 192=func(impl.Stm,_string)_bool 193=func(impl.Class,_[]impl.Stm,_[]int)_int 194=func(uint8)_bool 195=func(string)_impl.Item 196=func([]impl.Item)_string 197=func(string,_int)_[]string 198=func(string,_string)_int 199=func(string,_string,_int,_int,_error)_error 200=func(bool)_int 201=func(int64,_int)_string 203=func(unsafe.Pointer)_unsafe.Pointer 204=func(int) 205=func(laws.Slot,_int)_int 206=laws.Slot 207=func(laws.Stm,_int)_int 208=[]laws.Item 209=[][]laws.Item 211=laws.Stm 212=func(string,_int) 213=func(laws.Slot)_impl.Slot 214=func(laws.Stm)_impl.Stm 215=func(impl.Item)_bool 216=func([]impl.Item)_bool 217=func(impl.Slot,_impl.Slot)_bool 218=func(impl.Stm,_impl.Stm)_bool 219=func(impl.Class,_string)_bool 220=func(impl.Class,_[]impl.Item)_bool 221=func([]string,_string)_bool 222=func(impl.Item)_string 224=func(string)_(int32,_int) 225=func(string,_uint8)_int 226=strconv.Error 228=func(string,_int,_int)_(int64,_error) 229=Error 230=func(string,_string)_*strconv.NumError 231=func(string,_string,_int)_*strconv.NumError 232=[24]uint8 233=uint64 234=func(uint64)_int 235=func([]uint8,_uint64) 237=func([]uint8,_uint64,_int,_bool,_bool)_([]uint8,_string) 238=func([]laws.Item,_int)_int 239=func([][]laws.Item,_int)_int 240=func(int,_[]int)_int 241=func([]laws.Item)_[]impl.Item 242=func([][]laws.Item)_[][]impl.Item 243=func([]impl.Item,_[]impl.Item)_bool 244=func([][]impl.Item,_[][]impl.Item)_bool 245=func()_[]string 246=func([]impl.Item,_int)_bool 247=uint 249=func(string,_int,_int)_(uint64,_error) 250=func(string)_string 251=struct_{_Func_string;_Num_string;_Err_error_} 252=strconv.NumError 253=func(string)_error 254=[20]uint64 255=uint32 256=[65]uint8 257=func(uint)_int 258=func(int)_[]uint8 259=func(laws.Item,_int)_int 260=laws.Item 261=func(laws.Item)_impl.Item 262=func(impl.Item,_impl.Item)_bool 264=func(int)_([]string,_[]int) 265=[256]uint8 266=struct_{_lo_uint8;_hi_uint8_} 267=utf8.acceptRange 268=[16]utf8.acceptRange 270=func(string)_(uint32,_uint32) 271=func(uint8)_uint8 272=Error 273=struct_{_s_string_} 274=errors.errorString 275=func(uint32)_int 276=[32]uint8 277=[64]uint8 279=runtime.TypeAssertionError 283=func()_int 284=abi.TFlag 285=abi.Kind 286=func(unsafe.Pointer,_unsafe.Pointer)_bool 287=abi.NameOff 288=abi.TypeOff 290=abi.Type
end Go.Pm
/- Part of the proof: Cf. -/
namespace Go.Pm
def kwBytes:List (List UInt8):=[[97,110,100],[98,111,111,108],[101,108,115,101],[102,97,108,115,101],[102,98,121],[105,102],[105,110,116],[108,101,116],[109,101,114,103,101],[109,111,100],[110,111,100,101],[110,111,116],[111,114],[114,101,116,117,114,110,115],[116,101,108],[116,104,101,110],[116,114,117,101],[118,97,114],[119,104,101,110],[119,104,101,110,111,116],[120,111,114]]
def kwS:List ByteArray:=kwBytes.map fun l=>⟨l.toArray⟩
def gl (g:Nat):Option (List D):=if g=1 then some [.mp .string (wordMap kwS)]else none
noncomputable def X:Cfg:=mkCfg Go.Proofs.Tryz.prog gl tyL Jca
theorem Jp:X.P.follows .mixedOrders=true:=by kernel_rfl
@[simp] theorem X_T (t:TypeId):X.T t=look tyL t:=rfl
@[simp] theorem X_G (g:Nat):X.G g=gl g:=rfl
end Go.Pm
/- Part of the proof: En4. -/
namespace Go.Pm
open Go.Proofs
section
variable {H:Type} {en:TypeId×Value→H} {w:World} {base:Nat} {spare:Nat→Bool} {held:Bool}
theorem rdStr:Rd en Tryz.prog w base spare held 9 eStr dStr:=J0D id (fun _=>rfl) (fun _ h=>h) (J8Z (by kernel_rfl))
theorem rdStrs:Rd en Tryz.prog w base spare held 50 (fun l:List ByteArray=>[.im (l.map eStr)]) (dL dStr):=J0D id (fun _=>rfl) (fun _ h=>h) (J1f (sz:=1) (by kernel_rfl) rdStr (by kernel_rfl) (by decide) (fun _=>rfl))
theorem rdInt:Rd en Tryz.prog w base spare held 3 eNum (fun _=>True):=Jck (by kernel_rfl)
theorem rdItm:Rd en Tryz.prog w base spare held 260 eItm dItm:=
 J0D (fun p:Int×Int×ByteArray×Unit=>(⟨p.1,p.2.1,p.2.2.1⟩:Itm)) (fun _=>rfl) (fun _ h=>h.2.2.1)
  (J1b (n:=3) (by kernel_rfl) (by kernel_rfl) (fun _=>rfl) (JO 1 rdInt (fun _=>rfl) (JO 1 rdInt (fun _=>rfl) (JO 1 rdStr (fun _=>rfl) J2Z))))
theorem rdItms:Rd en Tryz.prog w base spare held 208 eItms (dL dItm):=J0D id (fun _=>rfl) (fun _ h=>h) (J1f (sz:=3) (by kernel_rfl) rdItm (by kernel_rfl) (by decide) (fun _=>rfl))
theorem rdItmss:Rd en Tryz.prog w base spare held 209 (fun l:List (List Itm)=>[.im (l.map eItms)]) (dL (dL dItm)):=J0D id (fun _=>rfl) (fun _ h=>h) (J1f (sz:=1) (by kernel_rfl) rdItms (by kernel_rfl) (by decide) (fun _=>rfl))
theorem rdNums:Rd en Tryz.prog w base spare held 25 (fun l:List Int=>[.im (l.map eNum)]) dNums:=J0D id (fun _=>rfl) (fun _ h=>h.1) (J1f (sz:=1) (by kernel_rfl) rdInt (by kernel_rfl) (by decide) (fun _=>rfl))
theorem rdSlt:Rd en Tryz.prog w base spare held 206 eSlt dSlt:=
 J0D (fun p:ByteArray×Int×Unit=>(⟨p.1,p.2.1⟩:Slt)) (fun _=>rfl) (fun _ h=>h.1)
  (J1b (n:=2) (by kernel_rfl) (by kernel_rfl) (fun _=>rfl) (JO 1 rdStr (fun _=>rfl) (JO 1 rdInt (fun _=>rfl) J2Z)))
theorem rdSlts:Rd en Tryz.prog w base spare held 118 (fun l:List Slt=>[.im (l.map eSlt)]) (dL dSlt):=J0D id (fun _=>rfl) (fun _ h=>h) (J1f (sz:=2) (by kernel_rfl) rdSlt (by kernel_rfl) (by decide) (fun _=>rfl))
theorem rdSm:Rd en Tryz.prog w base spare held 211 eSm dSm:=
 J0D (fun p:Int×ByteArray×Int×List ByteArray×List Itm×List (List Itm)×Unit=>(⟨p.1,p.2.1,p.2.2.1,p.2.2.2.1,p.2.2.2.2.1,p.2.2.2.2.2.1⟩:Sm)) (fun _=>rfl) (fun _ h=>⟨h.2.1,h.2.2.2.1,h.2.2.2.2.1,h.2.2.2.2.2.1⟩)
  (J1b (n:=6) (by kernel_rfl) (by kernel_rfl) (fun _=>rfl) (JO 1 rdInt (fun _=>rfl) (JO 1 rdStr (fun _=>rfl) (JO 1 rdInt (fun _=>rfl) (JO 1 rdStrs (fun _=>rfl) (JO 1 rdItms (fun _=>rfl) (JO 1 rdItmss (fun _=>rfl) J2Z)))))))
theorem rdSms:Rd en Tryz.prog w base spare held 119 (fun l:List Sm=>[.im (l.map eSm)]) (dL dSm):=J0D id (fun _=>rfl) (fun _ h=>h) (J1f (sz:=6) (by kernel_rfl) rdSm (by kernel_rfl) (by decide) (fun _=>rfl))
theorem rdCls:Rd en Tryz.prog w base spare held 121 eCls dCls:=
 J0D (fun p:ByteArray×List Slt×List Slt×List ByteArray×List Int×List Int×List Sm×Unit=>(⟨p.1,p.2.1,p.2.2.1,p.2.2.2.1,p.2.2.2.2.1,p.2.2.2.2.2.1,p.2.2.2.2.2.2.1⟩:Cls)) (fun _=>rfl) (fun _ h=>⟨h.1,h.2.1,h.2.2.1,h.2.2.2.1,h.2.2.2.2.1,h.2.2.2.2.2.1,h.2.2.2.2.2.2.1⟩)
  (J1b (n:=7) (by kernel_rfl) (by kernel_rfl) (fun _=>rfl) (JO 1 rdStr (fun _=>rfl) (JO 1 rdSlts (fun _=>rfl) (JO 1 rdSlts (fun _=>rfl) (JO 1 rdStrs (fun _=>rfl) (JO 1 rdNums (fun _=>rfl) (JO 1 rdNums (fun _=>rfl) (JO 1 rdSms (fun _=>rfl) J2Z))))))))
theorem rdClss:Rd en Tryz.prog w base spare held 22 (fun l:List Cls=>[.im (l.map eCls)]) (dL dCls):=J0D id (fun _=>rfl) (fun _ h=>h) (J1f (sz:=7) (by kernel_rfl) rdCls (by kernel_rfl) (by decide) (fun _=>rfl))
theorem rdMachine:Rd en Tryz.prog w base spare held 24 (fun l:List Cls=>[.im (l.map eCls)]) (dL dCls):=
 J0D (fun p:List Cls×Unit=>p.1) (fun _=>rfl) (fun _ h=>h.1)
  (J1b (n:=1) (by kernel_rfl) (by kernel_rfl) (fun _=>rfl) (JO 1 rdClss (fun _=>rfl) J2Z))
end
def kwLaid:List (Lit×DataW Unit):=mapEnts YtdjanhhljinokaaGreatDoor.Rows.laid_loop_example_s0043_impl_keywords
theorem Jcf:litMap kwLaid=wordMap kwS:=by kernel_rfl
theorem Jcp:((litMap kwLaid).all fun y=>keyFit .string y.1)=true:=by kernel_rfl
theorem Jbm:distB ((litMap kwLaid).map (·.1))=true:=by kernel_rfl
theorem Jbu {W:World} (h:laidMetH Tryz.prog [("loop.example/s0043/impl.keywords",YtdjanhhljinokaaGreatDoor.Rows.laid_loop_example_s0043_impl_keywords)] W):GRel X (FW W):=by
 rw[MakeChecks.laidMetH_plain _ _ _ (by kernel_rfl)]at h
 obtain⟨ps,⟨g0,t0,cs0,f0,p0,q0,hg0,ht0,hv0,hd0,_,_⟩,_,_⟩:=h
 have ht:t0=177:=(Option.some.inj ((show(Tryz.prog.globals[1]?).map (·.type)=some 177 by kernel_rfl).symm.trans (by rw[←Option.some.inj ((show Tryz.prog.globalNamed "loop.example/s0043/impl.keywords"=some 1 by kernel_rfl).symm.trans hg0)]at ht0;exact ht0))).symm
 subst ht
 obtain⟨v,hc,ho,hx⟩:=JbM (kk:=.string) (k:=9) (e:=4) (by kernel_rfl) (.inl (by kernel_rfl)) (.inl (by kernel_rfl)) Jcp Jbm (show DataW.trod _ _ _ _ _ _ _ _ _=some (.map kwLaid,p0)from hd0)
 rw[Jcf]at hx
 have key:=Jb4 hg0 (show Tryz.prog.globalNamed "loop.example/s0043/impl.keywords"=some 1 by kernel_rfl) hv0 hc ho hx
 intro g cells hg
 simp only[X_G,gl]at hg
 split at hg
 ·rename_i hg'
  subst hg'
  cases hg
  exact key
 ·cases hg
end Go.Pm
/- Part of the proof: Im1. -/
namespace Go.Pm
attribute [local irreducible] AR Ok inBlock andThen endQ aoper
set_option maxHeartbeats 1000000
open Go.Proofs
def digitI (c:UInt8):Bool:=decide (48≤(c.toNat:Int))&&decide ((c.toNat:Int)≤57)
def letterI (c:UInt8):Bool:=decide (97≤(c.toNat:Int))&&decide ((c.toNat:Int)≤122)||decide (65≤(c.toNat:Int))&&decide ((c.toNat:Int)≤90)
theorem J39 (c:UInt8):PFun X 149 [.d (.s (.int .u8 c.toNat))] (vb (digitI c)):=by
 refine Jn Tryz.func149 rfl (by decide) Tryz.ntmps149 Tryz.results149 (by simp) rfl rfl ?_
 repeat' first|refine Z1 ?_|refine Z2 ?_|refine Z3 ?_|refine Z4 ?_|refine Z5 ?_|refine Z6 ?_|refine Z7 ?_|refine Z8 ?_|refine Z9 ?_|refine Za (fun hc=>?_) (fun hc=>?_)|refine Zb (fun hc=>?_) (fun hc=>?_)|refine Zd ?_|refine Ze ?_|refine Zf ?_|refine Zg ?_|refine Zh ?_|refine Zi ?_|refine Zj ?_|refine Zk ?_|refine Zl ?_|refine Zm ?_|refine Zn (fun hc=>?_) (fun hc=>?_)|refine Zo ?_|refine J6 ?_|refine Jf ?_|refine Zp ?_|refine Zq ?_|refine Zr (fun hc=>?_) (fun hc=>?_)|refine J5 ?_|refine Jh ?_|refine J8 ?_|refine Jb ?_|refine J3 ?_|refine Ja ?_|refine Zs ?_|refine Zv ?_|refine J7 ?_|refine J9 ?_|refine J4 ?_|refine Zt ?_|refine Zu ?_
 all_goals simp[digitI, *]
theorem J1r (c:UInt8):PFun X 160 [.d (.s (.int .u8 c.toNat))] (vb (letterI c)):=by
 refine Jn Tryz.func160 rfl (by decide) Tryz.ntmps160 Tryz.results160 (by simp) rfl rfl ?_
 repeat' first|refine Z1 ?_|refine Z2 ?_|refine Z3 ?_|refine Z4 ?_|refine Z5 ?_|refine Z6 ?_|refine Z7 ?_|refine Z8 ?_|refine Z9 ?_|refine Za (fun hc=>?_) (fun hc=>?_)|refine Zb (fun hc=>?_) (fun hc=>?_)|refine Zd ?_|refine Ze ?_|refine Zf ?_|refine Zg ?_|refine Zh ?_|refine Zi ?_|refine Zj ?_|refine Zk ?_|refine Zl ?_|refine Zm ?_|refine Zn (fun hc=>?_) (fun hc=>?_)|refine Zo ?_|refine J6 ?_|refine Jf ?_|refine Zp ?_|refine Zq ?_|refine Zr (fun hc=>?_) (fun hc=>?_)|refine J5 ?_|refine Jh ?_|refine J8 ?_|refine Jb ?_|refine J3 ?_|refine Ja ?_|refine Zs ?_|refine Zv ?_|refine J7 ?_|refine J9 ?_|refine J4 ?_|refine Zt ?_|refine Zu ?_
 all_goals simp[letterI, *]
def arityI (op:Int):Int:=if op=1∨op=2∨op=3∨op=25 then 0 else if op=4∨op=5∨op=21∨op=22∨op=23 then 1 else if op=20 then 3 else 2
theorem J6Q (op:Int):PFun X 119 [vi op] (vi (arityI op)):=by
 refine Jn Tryz.func119 rfl (by decide) Tryz.ntmps119 Tryz.results119 (by simp) rfl rfl ?_
 repeat' first|refine Z1 ?_|refine Z2 ?_|refine Z3 ?_|refine Z4 ?_|refine Z5 ?_|refine Z6 ?_|refine Z7 ?_|refine Z8 ?_|refine Z9 ?_|refine Za (fun hc=>?_) (fun hc=>?_)|refine Zb (fun hc=>?_) (fun hc=>?_)|refine Zd ?_|refine Ze ?_|refine Zf ?_|refine Zg ?_|refine Zh ?_|refine Zi ?_|refine Zj ?_|refine Zk ?_|refine Zl ?_|refine Zm ?_|refine Zn (fun hc=>?_) (fun hc=>?_)|refine Zo ?_|refine J6 ?_|refine Jf ?_|refine Zp ?_|refine Zq ?_|refine Zr (fun hc=>?_) (fun hc=>?_)|refine J5 ?_|refine Jh ?_|refine J8 ?_|refine Jb ?_|refine J3 ?_|refine Ja ?_|refine Zs ?_|refine Zv ?_|refine J7 ?_|refine J9 ?_|refine J4 ?_|refine Zt ?_|refine Zu ?_
 all_goals simp only[decide_eq_true_eq,decide_eq_false_iff_not,Bool.not_eq_true,Bool.not_eq_false,Bool.not_eq_eq_eq_not,Bool.not_true,Bool.not_false]at *
 all_goals simp[arityI, *]
end Go.Pm
/- Part of the proof: Im2. -/
namespace Go.Pm
attribute [local irreducible] AR Ok inBlock andThen endQ aoper
set_option maxHeartbeats 1000000
open Go.Proofs
theorem J0T (n:Int):0≤arityI n∧arityI n≤3:=by unfold arityI;split<;>(try split)<;>(try split)<;>omega
def postI:Int→List Itm→Bool
 |h,[]=>decide (h=1)
 |h,x::l=>if h<arityI x.op then false else postI (h+(1-arityI x.op)) l
theorem J85 (l:List Itm) (hl:l.length<1099511627776):PFun X 162 [.d (.im (l.map eItm))] (vb (postI 0 l)):=by
 refine Jn Tryz.func162 rfl (by decide) Tryz.ntmps162 Tryz.results162 (by simp) rfl rfl ?_
 repeat' first|refine Z1 ?_|refine Z2 ?_|refine Z3 ?_|refine Z4 ?_|refine Z5 ?_|refine Z6 ?_|refine Z7 ?_|refine Z8 ?_|refine Z9 ?_|refine Za (fun hc=>?_) (fun hc=>?_)|refine Zb (fun hc=>?_) (fun hc=>?_)|refine Zd ?_|refine Ze ?_|refine Zf ?_|refine Zg ?_|refine Zh ?_|refine Zi ?_|refine Zj ?_|refine Zk ?_|refine Zl ?_|refine Zm ?_|refine Zn (fun hc=>?_) (fun hc=>?_)|refine Zo ?_|refine J6 ?_|refine Jf ?_|refine Zp ?_|refine Zq ?_|refine Zr (fun hc=>?_) (fun hc=>?_)|refine J5 ?_|refine Jh ?_|refine J8 ?_|refine Jb ?_|refine J3 ?_|refine Ja ?_|refine Zs ?_|refine Zv ?_|refine J7 ?_|refine J9 ?_|refine J4 ?_|refine Zt ?_|refine Zu ?_
 refine Jq (ι:=Nat×Int) (fun x=>envL [(2,vb false),(3,vi x.2),(7,.d (.im (l.map eItm))),(8,vi l.length),(9,vi x.1)]) (fun x=>stL []) (fun x=>0≤x.2∧x.2≤x.1∧x.1≤l.length∧postI x.2 (l.drop x.1)=postI 0 l) (fun x=>l.length-x.1) (0,0) (by simp) (Jj rfl ⟨.refl _,.refl _,.refl _,.refl _,.refl _,trivial⟩ trivial) (fun _=>Nat.le_refl 0) ?_
 rintro⟨k,h⟩ ⟨i1,i2,i3,i4⟩
 simp only at i1 i2 i3 i4
 rcases hx:l[k]? with _|x
 ·have hle:=Jo hx
  rw[Jr hx]at i4
  repeat' first|refine Z1 ?_|refine Z2 ?_|refine Z3 ?_|refine Z4 ?_|refine Z5 ?_|refine Z6 ?_|refine Z7 ?_|refine Z8 ?_|refine Z9 ?_|refine Za (fun hc=>?_) (fun hc=>?_)|refine Zb (fun hc=>?_) (fun hc=>?_)|refine Zd ?_|refine Ze ?_|refine Zf ?_|refine Zg ?_|refine Zh ?_|refine Zi ?_|refine Zj ?_|refine Zk ?_|refine Zl ?_|refine Zm ?_|refine Zn (fun hc=>?_) (fun hc=>?_)|refine Zo ?_|refine J6 ?_|refine Jf ?_|refine Zp ?_|refine Zq ?_|refine Zr (fun hc=>?_) (fun hc=>?_)|refine J5 ?_|refine Jh ?_|refine J8 ?_|refine Jb ?_|refine J3 ?_|refine Ja ?_|refine Zs ?_|refine Zv ?_|refine J7 ?_|refine J9 ?_|refine J4 ?_|refine Zt ?_|refine Zu ?_
  all_goals simp only[decide_eq_true_eq,decide_eq_false_iff_not,Bool.not_eq_true,Bool.not_eq_false,Bool.not_eq_eq_eq_not,Bool.not_true,Bool.not_false]at *
  ·omega
  ·exact Jm i4
 ·have hr:=J0T x.op
  obtain⟨hd,hlt⟩:=Ji hx
  rw[hd]at i4
  simp only[postI]at i4
  repeat' first|refine Z1 ?_|refine Z2 ?_|refine Z3 ?_|refine Z4 ?_|refine Z5 ?_|refine Z6 ?_|refine Z7 ?_|refine Z8 ?_|refine Z9 ?_|refine Za (fun hc=>?_) (fun hc=>?_)|refine Zb (fun hc=>?_) (fun hc=>?_)|refine Zc (J6Q _) ?_|refine Zd ?_|refine Ze ?_|refine Zf ?_|refine Zg ?_|refine Zh ?_|refine Zi ?_|refine Zj ?_|refine Zk ?_|refine Zl ?_|refine Zm ?_|refine Zn (fun hc=>?_) (fun hc=>?_)|refine Zo ?_|refine J6 ?_|refine Jf ?_|refine Zp ?_|refine Zq ?_|refine Zr (fun hc=>?_) (fun hc=>?_)|refine J5 ?_|refine Jh ?_|refine J8 ?_|refine Jb ?_|refine J3 ?_|refine Ja ?_|refine Zs ?_|refine Zv ?_|refine J7 ?_|refine J9 ?_|refine J4 ?_|refine Zt ?_|refine Zu ?_
  all_goals simp only[decide_eq_true_eq,decide_eq_false_iff_not,Bool.not_eq_true,Bool.not_eq_false,Bool.not_eq_eq_eq_not,Bool.not_true,Bool.not_false]at *
  ·exact Jm (by rw[←i4,if_pos (by assumption)])
  ·rw[if_neg (by assumption)]at i4
   exact⟨(k+1,h+(1-arityI x.op)),⟨by simp only;omega,by simp only;omega,by simp only;omega,i4⟩,by(try simp only);omega,Jl (Nat.zero_le _) ⟨⟨rfl,rfl⟩,⟨rfl,rfl⟩,⟨rfl,rfl⟩,⟨rfl,rfl⟩,⟨rfl,rfl⟩,trivial⟩ trivial⟩
  ·omega
end Go.Pm
/- Part of the proof: Im3. -/
namespace Go.Pm
attribute [local irreducible] AR Ok inBlock andThen endQ aoper
set_option maxHeartbeats 1000000
open Go.Proofs
def tailI (c:UInt8):Bool:=letterI c||digitI c||decide ((c.toNat:Int)=95)
def nameI (s:ByteArray):Bool:=
 match bs s with
 |[]=>false
 |c::r=>
  if 40<(s.size:Int)then false
  else if(c.toNat:Int)=36 then
   match r with
   |[]=>false
   |d::_=>if 10<(s.size:Int)∨(d.toNat:Int)=48 then false else r.all digitI
  else letterI c&&!hasWord kwS s&&r.all tailI
theorem Jas {s:ByteArray} {c:UInt8} {r:List UInt8} (h:bs s=c::r):decide (s=⟨#[]⟩)=false:=by
 rw[decide_eq_false_iff_not]
 intro e
 rw[e]at h
 cases h
theorem J0y (s:ByteArray):PFun X 114 [vs s] (vb (nameI s)):=by
 have hsz:=J03 s
 refine Jn Tryz.func114 rfl (by decide) Tryz.ntmps114 Tryz.results114 (by simp) rfl rfl ?_
 rcases hb:bs s with _|⟨c,r⟩
 ·have e:decide (s=⟨#[]⟩)=true:=J0 (Jc5 hb)
  repeat' first|refine Z1 ?_|refine Z2 ?_|refine Z5 ?_|refine Z9 ?_|refine Zl ?_|refine Zo ?_|refine J6 ?_|refine Zp ?_|refine Jb ?_|refine J7 ?_|refine Zt ?_
  exact Jm (by simp[nameI,hb])
 ·have h0:(bs s)[0]? = some c:=by rw[hb];rfl
  have e:=Jas hb
  rw[hb]at hsz
  simp only[List.length_cons]at hsz
  by_cases hbig:40<(s.size:Int)
  ·have e2:decide (40<(s.size:Int))=true:=J0 hbig
   repeat' first|refine Z1 ?_|refine Z2 ?_|refine Z5 ?_|refine Z7 ?_|refine Zh ?_|refine Zi ?_|refine Zm ?_|refine Zo ?_|refine J6 ?_|refine Zp ?_|refine Jb ?_|refine J7 ?_|refine Zt ?_
   exact Jm (by simp[nameI,hb,hbig])
  have e2:decide (40<(s.size:Int))=false:=J1 hbig
  by_cases h36:(c.toNat:Int)=36
  ·have e3:decide ((c.toNat:Int)=36)=true:=J0 h36
   rcases r with _|⟨d,r⟩
   ·have e4:decide ((s.size:Int)<2)=true:=J0 (by simp at hsz;omega)
    repeat' first|refine Z1 ?_|refine Z2 ?_|refine Z5 ?_|refine Z7 ?_|refine Z9 ?_|refine J1c rfl rfl h0 rfl rfl rfl ?_|refine Zh ?_|refine Zi ?_|refine Zl ?_|refine Zm ?_|refine Zo ?_|refine J6 ?_|refine Zp ?_|refine Zq ?_|refine J8 ?_|refine Jb ?_|refine J3 ?_|refine J7 ?_|refine Zt ?_
    exact Jm (by simp[nameI,hb,hbig,h36])
   ·have h1:(bs s)[1]? = some d:=by rw[hb];rfl
    have e4:decide ((s.size:Int)<2)=false:=J1 (by simp at hsz;omega)
    by_cases h10:10<(s.size:Int)∨(d.toNat:Int)=48
    ·have hn:nameI s=false:=by simp[nameI,hb,hbig,h36,h10]
     repeat' first|refine Z1 ?_|refine Z2 ?_|refine Z5 ?_|refine Z7 ?_|refine Z9 ?_|refine Zb (fun hc=>?_) (fun hc=>?_)|refine J1c rfl rfl h0 rfl rfl rfl ?_|refine J1c rfl rfl h1 rfl rfl rfl ?_|refine Zh ?_|refine Zi ?_|refine Zl ?_|refine Zm ?_|refine Zo ?_|refine J6 ?_|refine Zp ?_|refine Zq ?_|refine Zr (fun hc=>?_) (fun hc=>?_)|refine J5 ?_|refine J8 ?_|refine Jb ?_|refine J3 ?_|refine J7 ?_|refine Zt ?_
     all_goals simp only[decide_eq_true_eq,decide_eq_false_iff_not,Bool.not_eq_true,Bool.not_eq_false,Bool.not_eq_eq_eq_not,Bool.not_true,Bool.not_false]at *
     ·exact Jm hn.symm
     ·omega
     ·exact Jm hn.symm
    ·have e5:decide (10<(s.size:Int))=false:=J1 (by omega)
     have e6:decide ((d.toNat:Int)=48)=false:=J1 (by omega)
     have hn:nameI s=(d::r).all digitI:=by simp only[nameI,hb,hbig,h36,h10,if_false,if_true]
     repeat' first|refine Z1 ?_|refine Z2 ?_|refine Z5 ?_|refine Z7 ?_|refine J1c rfl rfl h0 rfl rfl rfl ?_|refine J1c rfl rfl h1 rfl rfl rfl ?_|refine Zh ?_|refine Zi ?_|refine Zm ?_|refine Zo ?_|refine J6 ?_|refine Zp ?_|refine Zq ?_|refine J5 ?_|refine J8 ?_|refine J3 ?_
     refine Jq (ι:=Nat) (fun x=>envL [(0,vs s),(2,vb false),(3,vi x)]) (fun x=>stL []) (fun x=>1≤x∧x≤s.size∧((bs s).drop x).all digitI=nameI s) (fun x=>s.size-x) 1 (⟨by omega,by omega,by rw[hn,hb];simp⟩) (Jj rfl ⟨.refl _,.refl _,.refl _,trivial⟩ trivial) (fun _=>Nat.le_refl 0) ?_
     rintro k ⟨i1,i2,i3⟩
     rcases hx:(bs s)[k]? with _|x
     ·have hle:=Jo hx
      rw[J03]at hle
      have ek:decide ((k:Int)<(s.size:Int))=false:=J1 (by omega)
      rw[Jr hx]at i3
      repeat' first|refine Z1 ?_|refine Z2 ?_|refine Zo ?_|refine J6 ?_|refine Zq ?_|refine Jh ?_|refine Jb ?_|refine J3 ?_|refine Ja ?_|refine Zv ?_|refine J7 ?_|refine Zt ?_
      exact Jm i3
     ·obtain⟨hd,hlt⟩:=Ji hx
      rw[J03]at hlt
      have ek:decide ((k:Int)<(s.size:Int))=true:=J0 (by omega)
      rw[hd,List.all_cons]at i3
      cases hdx:digitI x with
      |false=>
       have ex:(!digitI x)=true:=by rw[hdx];rfl
       repeat' first|refine Z1 ?_|refine Z2 ?_|refine Z5 ?_|refine J1c rfl rfl hx rfl rfl rfl ?_|refine Zc (J39 _) ?_|refine Zo ?_|refine J6 ?_|refine Zp ?_|refine J5 ?_|refine J8 ?_|refine Jb ?_|refine J3 ?_|refine J7 ?_|refine J9 ?_|refine Zt ?_
       exact Jm (by rw[←i3,hdx];rfl)
      |true=>
       have ex:(!digitI x)=false:=by rw[hdx];rfl
       repeat' first|refine Z1 ?_|refine Z2 ?_|refine Z5 ?_|refine J1c rfl rfl hx rfl rfl rfl ?_|refine Zc (J39 _) ?_|refine Zf ?_|refine Zo ?_|refine J6 ?_|refine Jf ?_|refine Zp ?_|refine Zq ?_|refine J5 ?_|refine J8 ?_|refine J3 ?_|refine J4 ?_
       rw[hdx,Bool.true_and]at i3
       exact⟨k+1,⟨by omega,by omega,i3⟩,by(try simp only);omega,Jl (Nat.zero_le _) ⟨⟨rfl,rfl⟩,⟨rfl,rfl⟩,⟨rfl,rfl⟩,trivial⟩ trivial⟩
  ·have e3:decide ((c.toNat:Int)=36)=false:=J1 h36
   cases hl:letterI c with
   |false=>
    have el:(!letterI c)=true:=by rw[hl];rfl
    repeat' first|refine Z1 ?_|refine Z2 ?_|refine Z5 ?_|refine Z7 ?_|refine Z9 ?_|refine J1c rfl rfl h0 rfl rfl rfl ?_|refine Zc (J1r _) ?_|refine Zh ?_|refine Zi ?_|refine Zl ?_|refine Zm ?_|refine Zo ?_|refine J6 ?_|refine Zp ?_|refine Zq ?_|refine J8 ?_|refine Jb ?_|refine J3 ?_|refine J7 ?_|refine Zt ?_
    exact Jm (by simp[nameI,hb,hbig,h36,hl])
   |true=>
    have el:(!letterI c)=false:=by rw[hl];rfl
    cases hw:hasWord kwS s with
    |true=>
     repeat' first|refine Z1 ?_|refine Z2 ?_|refine Z5 ?_|refine Z7 ?_|refine J1c rfl rfl h0 rfl rfl rfl ?_|refine Zc (J1r _) ?_|refine J8M rfl rfl rfl rfl rfl rfl rfl rfl ?_|refine Zh ?_|refine Zi ?_|refine Zm ?_|refine Zo ?_|refine J6 ?_|refine Zp ?_|refine Zq ?_|refine J8 ?_|refine Jb ?_|refine J3 ?_|refine J7 ?_|refine Zt ?_
     exact Jm (by simp[nameI,hb,hbig,h36,hl,hw])
    |false=>
     have hn:nameI s=r.all tailI:=by simp[nameI,hb,hbig,h36,hl,hw]
     repeat' first|refine Z1 ?_|refine Z2 ?_|refine Z5 ?_|refine Z7 ?_|refine J1c rfl rfl h0 rfl rfl rfl ?_|refine Zc (J1r _) ?_|refine J8M rfl rfl rfl rfl rfl rfl rfl rfl ?_|refine Zh ?_|refine Zi ?_|refine Zm ?_|refine Zo ?_|refine J6 ?_|refine Zq ?_|refine J5 ?_|refine J8 ?_|refine J3 ?_
     refine Jq (ι:=Nat) (fun x=>envL [(0,vs s),(2,vb false),(4,vi x)]) (fun x=>stL []) (fun x=>1≤x∧x≤s.size∧((bs s).drop x).all tailI=nameI s) (fun x=>s.size-x) 1 (⟨by omega,by omega,by rw[hn,hb];simp⟩) (Jj rfl ⟨.refl _,.refl _,.refl _,trivial⟩ trivial) (fun _=>Nat.le_refl 0) ?_
     rintro k ⟨i1,i2,i3⟩
     rcases hx:(bs s)[k]? with _|x
     ·have hle:=Jo hx
      rw[J03]at hle
      have ek:decide ((k:Int)<(s.size:Int))=false:=J1 (by omega)
      rw[Jr hx]at i3
      repeat' first|refine Z1 ?_|refine Z2 ?_|refine Zo ?_|refine J6 ?_|refine Zq ?_|refine Jh ?_|refine Jb ?_|refine J3 ?_|refine Ja ?_|refine Zv ?_|refine Zt ?_
      exact Jm i3
     ·obtain⟨hd,hlt⟩:=Ji hx
      rw[J03]at hlt
      have ek:decide ((k:Int)<(s.size:Int))=true:=J0 (by omega)
      rw[hd,List.all_cons]at i3
      cases htx:tailI x with
      |false=>
       have htx':=htx
       simp only[tailI,Bool.or_eq_false_iff,decide_eq_false_iff_not]at htx'
       have ex:(!letterI x)=true:=by rw[htx'.1.1];rfl
       have ex2:(!digitI x)=true:=by rw[htx'.1.2];rfl
       have ex3:decide ((x.toNat:Int)≠95)=true:=J0 htx'.2
       repeat' first|refine Z1 ?_|refine Z2 ?_|refine Z5 ?_|refine Z7 ?_|refine J1c rfl rfl hx rfl rfl rfl ?_|refine Zc (J39 _) ?_|refine Zc (J1r _) ?_|refine Zh ?_|refine Zi ?_|refine Zl ?_|refine Zo ?_|refine J6 ?_|refine Zp ?_|refine J5 ?_|refine J8 ?_|refine Jb ?_|refine J3 ?_|refine J7 ?_|refine J9 ?_|refine Zt ?_
       exact Jm (by rw[←i3,htx];rfl)
      |true=>
       rw[htx,Bool.true_and]at i3
       repeat' first|refine Z1 ?_|refine Z2 ?_|refine Z5 ?_|refine Z7 ?_|refine Z8 ?_|refine Za (fun hc=>?_) (fun hc=>?_)|refine J1c rfl rfl hx rfl rfl rfl ?_|refine Zc (J39 _) ?_|refine Zc (J1r _) ?_|refine Zf ?_|refine Zh ?_|refine Zi ?_|refine Zl ?_|refine Zm ?_|refine Zo ?_|refine J6 ?_|refine Jf ?_|refine Zp ?_|refine Zq ?_|refine Zr (fun hc=>?_) (fun hc=>?_)|refine J5 ?_|refine J8 ?_|refine Jb ?_|refine J3 ?_|refine J7 ?_|refine J9 ?_|refine J4 ?_|refine Zt ?_
       all_goals first
        |(exact⟨k+1,⟨by omega,by omega,i3⟩,by(try simp only);omega,Jl (Nat.zero_le _) ⟨⟨rfl,rfl⟩,⟨rfl,rfl⟩,⟨rfl,rfl⟩,trivial⟩ trivial⟩)
        |(exfalso;simp_all [tailI])
end Go.Pm
/- Part of the proof: Im4. -/
namespace Go.Pm
attribute [local irreducible] AR Ok inBlock andThen endQ aoper
set_option maxHeartbeats 1000000
open Go.Proofs
def nmI (x:Itm):Bool:=if x.op=3∨x.op=23∨x.op=24 then nameI x.name else decide (x.name=⟨#[]⟩)
def itemI (x:Itm):Bool:=
 if x.op<1∨24<x.op then false
 else if x.op=1 then(if x.val<0∨2147483647<x.val then false else nmI x)
 else if x.op=2∨x.op=22∨x.op=23 then(if x.val≠0∧x.val≠1 then false else nmI x)
 else if x.op=21 then(if x.val < -2147483647∨2147483647<x.val then false else nmI x)
 else if x.val≠0 then false else nmI x
theorem J48 (x:Itm):PFun X 161 [.agg ((eItm x).map .d)] (vb (itemI x)):=by
 refine Jn Tryz.func161 rfl (by decide) Tryz.ntmps161 Tryz.results161 (by simp) rfl rfl ?_
 repeat' first|refine Z1 ?_|refine Z2 ?_|refine Z3 ?_|refine Z4 ?_|refine Z5 ?_|refine Z6 ?_|refine Z7 ?_|refine Z8 ?_|refine Z9 ?_|refine Za (fun hc=>?_) (fun hc=>?_)|refine Zb (fun hc=>?_) (fun hc=>?_)|refine Zc (J0y _) ?_|refine Zd ?_|refine Ze ?_|refine Zf ?_|refine Zg ?_|refine Zh ?_|refine Zi ?_|refine Zj ?_|refine Zk ?_|refine Zl ?_|refine Zm ?_|refine Zn (fun hc=>?_) (fun hc=>?_)|refine Zo ?_|refine J6 ?_|refine Jf ?_|refine Zp ?_|refine Zq ?_|refine Zr (fun hc=>?_) (fun hc=>?_)|refine J5 ?_|refine Jh ?_|refine J8 ?_|refine Jb ?_|refine J3 ?_|refine Ja ?_|refine Zs ?_|refine Zv ?_|refine J7 ?_|refine J9 ?_|refine J4 ?_|refine Zt ?_|refine Zu ?_
 all_goals simp only[decide_eq_true_eq,decide_eq_false_iff_not,Bool.not_eq_true,Bool.not_eq_false,Bool.not_eq_eq_eq_not,Bool.not_true,Bool.not_false]at *
 all_goals (refine Jm ?_;unfold itemI nmI;grind)
end Go.Pm
