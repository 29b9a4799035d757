/- TopShell, part 21 of 36. -/
import Derived.Test.YtoeiaflkdcbkdaaGreatDoorQ0
import Derived.Test.YtoeiaflkdcbkdaaGreatDoorRows
import Derived.ProofKit
import Derived.JoinedOf
import Derived.SevenTiedAt
namespace Go.Proofs.YtoeiaflkdcbkdaaGreatDoor.topShell
open Go Go.Proofs.Tryz
theorem azQ:((Rows.topShellRow.named ==prog.varsNamed 3))=true:=by kernel_rfl
theorem azR:((Rows.topShellRow.maps ==(Tryz.f3.params.toList++Rows.topShellSpec.plain.varTypes prog).any (prog.mapsRec ·)))=true:=by kernel_rfl
theorem azS:((Rows.topShellRow.ifaces ==(Tryz.f3.params.toList++Rows.topShellSpec.plain.varTypes prog).any (prog.ifacesRec ·)))=true:=by kernel_rfl
theorem azT:((Rows.topShellRow.mapsOut ==prog.mapsAmong Tryz.f3.resultTypes.toList))=true:=by kernel_rfl
theorem azU:((Rows.topShellRow.loops ==(Tryz.f3.params.toList++Rows.topShellSpec.plain.varTypes prog).any (prog.loopsFrom ·)))=true:=by kernel_rfl
theorem azV:((Rows.topShellRow.wideKeys ==(Tryz.f3.params.toList++Rows.topShellSpec.plain.varTypes prog++Tryz.f3.resultTypes.toList).any (prog.wideKeysFrom ·)))=true:=by kernel_rfl
theorem azW:(Rows.topShellSpec.vars.all (prog.varReadable ·))=true:=by kernel_rfl
theorem azX:(Tryz.f3.resultTypes.all (fun t=>prog.readableRec t&&decide (t<prog.types.size)))=true:=by kernel_rfl
theorem azY:((Rows.topShellRow.ifacesOut ==Tryz.f3.resultTypes.toList.any (prog.ifacesRec ·)))=true:=by kernel_rfl
theorem azZ:((Rows.topShellRow.loopsOut ==Tryz.f3.resultTypes.toList.any (prog.loopsFrom ·)))=true:=by kernel_rfl
theorem az0:((Rows.topShellRow.plainKeys ==prog.plainKeys))=true:=by kernel_rfl
theorem az1:(Rows.topShellRow.shortTexts.isNone)=true:=by kernel_rfl
theorem az2:(prog.stopsHeard)=true:=by kernel_rfl
theorem az3:(prog.mayEnter)=true:=by kernel_rfl
theorem az4:((Rows.topShellRow.lifted ==prog.liftsFinal))=true:=by kernel_rfl
theorem az5:((prog.make ==some Rows.topShellRow.make))=true:=by kernel_rfl
theorem az6:((Rows.topShellRow.kinds ==(if Rows.topShellRow.domain.isEmpty then []else Tryz.f3.params.toList.map fun t=>match prog.underlying t with|some (.int k)=>some k|_=>none)))=true:=by kernel_rfl
theorem az7:((Rows.topShellRow.pinned ==Rows.topShellRow.pinnedBy))=true:=by kernel_rfl
theorem az8:((Rows.topShellRow.veiled ==(Tryz.f3.params.toList++Rows.topShellSpec.plain.varTypes prog++Tryz.f3.resultTypes.toList).any (prog.veiledRec ·)))=true:=by kernel_rfl
theorem az9:(Rows.topShellRow.veiledFits prog Tryz.f3.params.toList (Tryz.f3.params.toList++Rows.topShellSpec.plain.varTypes prog++Tryz.f3.resultTypes.toList))=true:=by kernel_rfl
theorem aAD:Rows.topShellRow.wfByText (OpenSpec.ofChange Rows.topShellSpec)=true:=by kernel_rfl
theorem am8:Tryz.pinned.checked.prog.mainIs=some ((true,"f5bc3aaeeb608a3b4bd874d66a8f4d2cb788fe4d40baa13fca6db8129891f93a").1,(true,"f5bc3aaeeb608a3b4bd874d66a8f4d2cb788fe4d40baa13fca6db8129891f93a").2.toList):=by kernel_rfl
theorem cf_in:([3,22].all fun u=>!prog.wantsStandIn u)=true:=by kernel_rfl
theorem am9:prog.funcNamed "abacist/abacisttop.TopShell"=some 3:=by kernel_rfl
end Go.Proofs.YtoeiaflkdcbkdaaGreatDoor.topShell
