/- The claim TopSteps, part 15 of 46: Ty0 -/
import Derived.Test.YteiomfgehlojeaaGreatDoorRows
import Derived.LaidByTextLater
import Derived.SevenTiedAt
set_option linter.unusedVariables false
set_option linter.unusedSimpArgs false
namespace Go.Proofs.YteiomfgehlojeaaGreatDoor
open Go
theorem ty_k:([("unicode/utf8.acceptRanges",Rows.laid_unicode_utf8_acceptRanges),("errors.errorType",Rows.laid_errors_errorType),("internal/strconv.uint64pow10",Rows.laid_internal_strconv_uint64pow10),("math/bits.deBruijn32tab",Rows.laid_math_bits_deBruijn32tab),("math/bits.deBruijn64tab",Rows.laid_math_bits_deBruijn64tab),("strconv.ErrSyntax",Rows.laid_strconv_ErrSyntax),("strconv.ErrRange",Rows.laid_strconv_ErrRange)]:List (String × DataW Unit)).map (fun x=>Tryz.prog.kindOfLater x.1) = ([.data, .handle, .data, .data, .data, .sentinel, .sentinel]:List LaidKind).map some:=by kernel_rfl
theorem ty_un:Tryz.pinned.checked.prog.headLifts.contains "ownunsafe" = false:=by kernel_rfl
theorem ty_w1:Tryz.prog.worded (varsWordLater true) = true:=by kernel_rfl
theorem ty_g:(Tryz.prog.funcNamed "gosem.cut.vars").isSome = true:=by kernel_rfl
end Go.Proofs.YteiomfgehlojeaaGreatDoor
