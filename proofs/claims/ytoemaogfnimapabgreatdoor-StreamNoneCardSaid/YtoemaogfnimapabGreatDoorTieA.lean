/- The tie of the listed variables to the program, first part: the closed facts that need no run. -/
import Derived.Test.YtoemaogfnimapabGreatDoorRows
import Derived.LaidByTextLater
import Derived.SevenTiedAt
set_option maxRecDepth 100000
namespace Go.Proofs.YtoemaogfnimapabGreatDoor
open Go
abbrev LL : List (String × DataW Unit) := [("unicode/utf8.acceptRanges", Rows.laid_unicode_utf8_acceptRanges), ("strings.asciiSpace", Rows.laid_strings_asciiSpace), ("unicode.White_Space", Rows.laid_unicode_White_Space), ("strconv.ErrSyntax", Rows.laid_strconv_ErrSyntax), ("strconv.ErrRange", Rows.laid_strconv_ErrRange), ("internal/strconv.uint64pow10", Rows.laid_internal_strconv_uint64pow10), ("math/bits.deBruijn32tab", Rows.laid_math_bits_deBruijn32tab), ("math/bits.deBruijn64tab", Rows.laid_math_bits_deBruijn64tab), ("errors.errorType", Rows.laid_errors_errorType)]
theorem t_hw : Tryz.prog.worded (varsWordLater true) = true := by kernel_rfl
theorem t_hw2 : Tryz.prog.worded (varsWordLater !true) = false := by kernel_rfl
theorem t_hroot : Tryz.prog.worded rootWordLater = true := by kernel_rfl
theorem t_hk : LL.map (fun x => Tryz.prog.kindOfLater x.1) = ([.data, .data, .listed, .sentinel, .sentinel, .data, .data, .data, .handle] : List LaidKind).map some := by kernel_rfl
theorem t_hg : (Tryz.prog.funcNamed "gosem.cut.vars").isSome = true := by kernel_rfl
theorem t_hn : varsNamedLaterB Tryz.prog (varsId Tryz.prog) LL = true := by kernel_rfl
end Go.Proofs.YtoemaogfnimapabGreatDoor
