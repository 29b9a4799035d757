/- TopShell, part 20 of 36. -/
import Derived.JoinedOf
import Derived.Test.YtoeiaflkdcbkdaaGreatDoorK10
namespace Go.Proofs.YtoeiaflkdcbkdaaGreatDoor.topShell
open Go.ChangeShapes Go.WideShapes Go.ChangeAt Go.RowKit Go.Proofs.Tryz
theorem atV (os:Os){H:Type}(enc:TypeId×Value->H):Rows.topShellSpec.preB enc prog Tryz.f3 Rows.topShellRow.domain false (gN os).memory RZ 8=true:=by kernel_rfl
theorem aiH (os:Os){H:Type}(enc:TypeId×Value->H):Rows.topShellSpec.sizedB enc prog Tryz.f3 false (gN os).memory RZ 8=true:=by kernel_rfl
end Go.Proofs.YtoeiaflkdcbkdaaGreatDoor.topShell
namespace Go.Proofs.YtoeiaflkdcbkdaaGreatDoor.topShell
open Go Go.Proofs.Tryz
theorem aCS:(Rows.topShellRow.wf (OpenSpec.ofChange Rows.topShellSpec))=true:=by kernel_rfl
theorem aCT:(laidOutB prog)=true:=by kernel_rfl
theorem aCU:(mapsRowed prog)=true:=by kernel_rfl
theorem aCV:(Tryz.f3.params.all (prog.readableRec ·))=true:=by kernel_rfl
theorem aCW:(namedTie prog Rows.topShellRow.named Rows.topShellSpec.vars)=true:=by kernel_rfl
theorem aCX:((Rows.topShellRow.stops ==[]))=true:=by kernel_rfl
theorem aCY:((prog.stops ==[]))=true:=by kernel_rfl
theorem aCZ:((Rows.topShellRow.knobs ==[]))=true:=by kernel_rfl
theorem aC0:((prog.stopKnobs ==[]))=true:=by kernel_rfl
theorem aC1:((Rows.topShellRow.inPlace ==prog.inPlace 3))=true:=by kernel_rfl
theorem azO:((Rows.topShellRow.unfollowed ==prog.unfollowed 3))=true:=by kernel_rfl
theorem azP:((Rows.topShellRow.recurses ==prog.recurses 3))=true:=by kernel_rfl
end Go.Proofs.YtoeiaflkdcbkdaaGreatDoor.topShell
