/-
  DERIVED. GIVEN WITH THE SEED: THE PROGRAM's TIES (one call each: nine closed facts by the kernel) AND EACH ROW's TIE, after the 31st guide's Derived/Test/Toyas{Tie, Card}.lean. No idea stands in it: it is a product of the set-up. Laid BY PROGRAM, IN A SANDBOX (cutbox-door.mjs). By AI agents, Wed Nov 11 2026. No macro, syntax, notation, axiom, sorry.
-/
import Derived.Test.YtljgefnmbpmjmaaDoorRows
import Derived.LaidByTextLater
import Derived.SevenTiedAt
import Derived.LaidSub
import Derived.LaidOnce
namespace Go.Proofs.YtljgefnmbpmjmaaDoor
open Go
set_option maxRecDepth 100000
theorem seatTie1 : Tryd.prog.laidByTextLater [("math/bits.deBruijn32tab", Rows.laid_math_bits_deBruijn32tab), ("math/bits.deBruijn64tab", Rows.laid_math_bits_deBruijn64tab), ("internal/strconv.uint64pow10", Rows.laid_internal_strconv_uint64pow10), ("loop.example/s0043/impl.keywords", Rows.laid_loop_example_s0043_impl_keywords), ("loop.example/s0043/impl.opText", Rows.laid_loop_example_s0043_impl_opText)] [.data, .data, .data, .mapped, .mapped] true :=
  Program.laidByTextLater_by_one 209 8 65 (by kernel_rfl) (by kernel_rfl) (by kernel_rfl) (by kernel_rfl) (by kernel_rfl) (by kernel_rfl) (fun _ _ => by kernel_rfl)
theorem noOwnUnsafe : Tryd.pinned.checked.prog.headLifts.contains "ownunsafe" = false := by kernel_rfl
theorem tie : Tryd.prog.laidByTextLater [("math/bits.deBruijn32tab", Rows.laid_math_bits_deBruijn32tab), ("math/bits.deBruijn64tab", Rows.laid_math_bits_deBruijn64tab), ("internal/strconv.uint64pow10", Rows.laid_internal_strconv_uint64pow10), ("loop.example/s0043/impl.keywords", Rows.laid_loop_example_s0043_impl_keywords), ("loop.example/s0043/impl.opText", Rows.laid_loop_example_s0043_impl_opText)] [.data, .data, .data, .mapped, .mapped] true :=
  Program.laidByTextLater.sub seatTie1 ["math/bits.deBruijn32tab", "math/bits.deBruijn64tab", "internal/strconv.uint64pow10", "loop.example/s0043/impl.keywords", "loop.example/s0043/impl.opText"] (by kernel_rfl) (by kernel_rfl)
theorem fnExactPrint_row_tie : Rows.fnExactPrintRow.laidByTextAt .later Tryd.pinned [.data, .data, .data, .mapped, .mapped] true :=
  OpenClaim.laidByTextAt_later rfl rfl tie noOwnUnsafe
theorem tie2 : Tryd.prog.laidByTextLater [("loop.example/s0043/impl.keywords", Rows.laid_loop_example_s0043_impl_keywords)] [.mapped] true :=
  Program.laidByTextLater.sub seatTie1 ["loop.example/s0043/impl.keywords"] (by kernel_rfl) (by kernel_rfl)
theorem fnExactCheck_row_tie : Rows.fnExactCheckRow.laidByTextAt .later Tryd.pinned [.mapped] true :=
  OpenClaim.laidByTextAt_later rfl rfl tie2 noOwnUnsafe
theorem fnExactPrintUpto_row_tie : Rows.fnExactPrintUptoRow.laidByTextAt .later Tryd.pinned [.data, .data, .data, .mapped, .mapped] true :=
  OpenClaim.laidByTextAt_later rfl rfl tie noOwnUnsafe
theorem fnExactCheckUpto_row_tie : Rows.fnExactCheckUptoRow.laidByTextAt .later Tryd.pinned [.mapped] true :=
  OpenClaim.laidByTextAt_later rfl rfl tie2 noOwnUnsafe
end Go.Proofs.YtljgefnmbpmjmaaDoor
