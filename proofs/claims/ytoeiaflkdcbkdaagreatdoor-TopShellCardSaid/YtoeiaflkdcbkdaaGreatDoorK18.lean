/- TopShell, part 18 of 36. -/
import Derived.Test.YtoeiaflkdcbkdaaGreatDoorQ0
import Derived.Test.YtoeiaflkdcbkdaaGreatDoorRows
import Derived.LaidByTextLater
import Derived.SevenTiedAt
namespace Go.Proofs.YtoeiaflkdcbkdaaGreatDoor
open Go Go.Proofs.Tryz
theorem aCO:([("unicode/utf8.acceptRanges",Rows.laid_unicode_utf8_acceptRanges),("errors.errorType",Rows.laid_errors_errorType),("internal/strconv.uint64pow10",Rows.laid_internal_strconv_uint64pow10),("math/bits.deBruijn32tab",Rows.laid_math_bits_deBruijn32tab),("math/bits.deBruijn64tab",Rows.laid_math_bits_deBruijn64tab),("strconv.ErrSyntax",Rows.laid_strconv_ErrSyntax),("strconv.ErrRange",Rows.laid_strconv_ErrRange)]:List (String×DataW Unit)).map (fun x=>prog.kindOfLater x.1)=([.data,.handle,.data,.data,.data,.sentinel,.sentinel]:List LaidKind).map some:=by kernel_rfl
theorem azG:Tryz.pinned.checked.prog.headLifts.contains "ownunsafe"=false:=by kernel_rfl
theorem azH:prog.worded (varsWordLater true)=true:=by kernel_rfl
theorem aCP:(prog.funcNamed "gosem.cut.vars").isSome=true:=by kernel_rfl
theorem azI:prog.worded (varsWordLater !true)=false:=by kernel_rfl
theorem azJ:prog.worded rootWordLater=true:=by kernel_rfl
theorem atP:Tryz.pinned.checked.prog.pinnedFits "unicode/utf8.first"=true:=by kernel_rfl
theorem aCQ:varsNamedLaterB prog (varsId prog) [("unicode/utf8.acceptRanges",Rows.laid_unicode_utf8_acceptRanges),("errors.errorType",Rows.laid_errors_errorType),("internal/strconv.uint64pow10",Rows.laid_internal_strconv_uint64pow10),("math/bits.deBruijn32tab",Rows.laid_math_bits_deBruijn32tab),("math/bits.deBruijn64tab",Rows.laid_math_bits_deBruijn64tab),("strconv.ErrSyntax",Rows.laid_strconv_ErrSyntax),("strconv.ErrRange",Rows.laid_strconv_ErrRange)]=true:=by kernel_rfl
theorem aCR:∀os tape,varsDone prog 400 (varsId prog) os tape=true:=fun _ _=>by kernel_rfl
theorem azK:∀os tape,(DataW.laidRun prog (varsWorld prog 400 (varsId prog) os tape).memory 8 ((([("unicode/utf8.acceptRanges",Rows.laid_unicode_utf8_acceptRanges),("errors.errorType",Rows.laid_errors_errorType),("internal/strconv.uint64pow10",Rows.laid_internal_strconv_uint64pow10),("math/bits.deBruijn32tab",Rows.laid_math_bits_deBruijn32tab),("math/bits.deBruijn64tab",Rows.laid_math_bits_deBruijn64tab),("strconv.ErrSyntax",Rows.laid_strconv_ErrSyntax),("strconv.ErrRange",Rows.laid_strconv_ErrRange)]:List (String×DataW Unit)).filter fun x=>x.2.handleName?.isNone).map (·.1))).map (·.1)=some (([("unicode/utf8.acceptRanges",Rows.laid_unicode_utf8_acceptRanges),("errors.errorType",Rows.laid_errors_errorType),("internal/strconv.uint64pow10",Rows.laid_internal_strconv_uint64pow10),("math/bits.deBruijn32tab",Rows.laid_math_bits_deBruijn32tab),("math/bits.deBruijn64tab",Rows.laid_math_bits_deBruijn64tab),("strconv.ErrSyntax",Rows.laid_strconv_ErrSyntax),("strconv.ErrRange",Rows.laid_strconv_ErrRange)]:List (String×DataW Unit)).filter fun x=>x.2.handleName?.isNone):=fun _ _=>by kernel_rfl
theorem azL:∀os tape,(DataW.laidRun prog (varsWorld prog 400 (varsId prog) os tape).memory 8 ((([("unicode/utf8.acceptRanges",Rows.laid_unicode_utf8_acceptRanges),("errors.errorType",Rows.laid_errors_errorType),("internal/strconv.uint64pow10",Rows.laid_internal_strconv_uint64pow10),("math/bits.deBruijn32tab",Rows.laid_math_bits_deBruijn32tab),("math/bits.deBruijn64tab",Rows.laid_math_bits_deBruijn64tab),("strconv.ErrSyntax",Rows.laid_strconv_ErrSyntax),("strconv.ErrRange",Rows.laid_strconv_ErrRange)]:List (String×DataW Unit)).filter fun x=>x.2.handleName?.isNone).map (·.1))).map (fun x=>decide x.2.Nodup&&laidRowsB prog (varsWorld prog 400 (varsId prog) os tape).memory x.2)=some true:=fun _ _=>by kernel_rfl
end Go.Proofs.YtoeiaflkdcbkdaaGreatDoor
