/- TopShell, part 19 of 36. -/
import Derived.LaidByTextLater
import Derived.SevenTiedAt
import Derived.Test.YtoeiaflkdcbkdaaGreatDoorK10
namespace Go.Proofs.YtoeiaflkdcbkdaaGreatDoor
open Go Go.Proofs.Tryz
theorem azM:∀os tape,(([("unicode/utf8.acceptRanges",Rows.laid_unicode_utf8_acceptRanges),("errors.errorType",Rows.laid_errors_errorType),("internal/strconv.uint64pow10",Rows.laid_internal_strconv_uint64pow10),("math/bits.deBruijn32tab",Rows.laid_math_bits_deBruijn32tab),("math/bits.deBruijn64tab",Rows.laid_math_bits_deBruijn64tab),("strconv.ErrSyntax",Rows.laid_strconv_ErrSyntax),("strconv.ErrRange",Rows.laid_strconv_ErrRange)]:List (String×DataW Unit)).filter fun x=>x.2.handleName?.isSome).all (handleAtB prog (varsWorld prog 400 (varsId prog) os tape).memory)=true:=fun _ _=>by kernel_rfl
end Go.Proofs.YtoeiaflkdcbkdaaGreatDoor
namespace Go.Proofs.YtoeiaflkdcbkdaaGreatDoor.topShell
open Go.ChangeShapes Go.WideShapes Go.ChangeAt Go.RowKit Go.Proofs.Tryz
theorem am4 (os:Os):(nR os).layFits prog qN []=true:=by kernel_rfl
theorem abO (os:Os):(nR os).layIfaces prog qN (rO os)=true:=by kernel_rfl
theorem abP (os:Os):((Rows.topShellRow.laid.filter fun x=>x.2.handleName?.isSome).all (handleAtB prog (gN os).memory))=true:=by kernel_rfl
theorem atU (os:Os):(gN os).variablesZipB prog=true:=by kernel_rfl
theorem am5 (os:Os):((gN os).heap.toList.drop prog.globals.size).take ((begin prog (fun _ _=>0) default).world.heap.size-prog.globals.size) =
 (begin prog (fun _ _=>0) default).world.heap.toList.drop prog.globals.size:=by kernel_rfl
theorem am6 (os:Os):Input.okWideB prog (gN os) 3 ⟨#[],RZ,[]⟩=true:=by kernel_rfl
end Go.Proofs.YtoeiaflkdcbkdaaGreatDoor.topShell
