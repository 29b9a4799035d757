/- The claim TopSteps, part 33 of 46: Jo7 -/
import Derived.Test.YteiomfgehlojeaaGreatDoorRows
import Derived.ProofKit
import Derived.JoinedOf
set_option linter.unusedVariables false
set_option linter.unusedSimpArgs false
namespace Go.Proofs.YteiomfgehlojeaaGreatDoor.topSteps
open Go
theorem jo_19:(Tryz.f3.resultTypes.all (fun t=>Tryz.prog.readableRec t && decide (t < Tryz.prog.types.size))) = true:=by kernel_rfl
theorem jo_20:((Rows.topStepsRow.ifacesOut == Tryz.f3.resultTypes.toList.any (Tryz.prog.ifacesRec ·))) = true:=by kernel_rfl
theorem jo_21:((Rows.topStepsRow.loopsOut == Tryz.f3.resultTypes.toList.any (Tryz.prog.loopsFrom ·))) = true:=by kernel_rfl
theorem jo_22:((Rows.topStepsRow.plainKeys == Tryz.prog.plainKeys)) = true:=by kernel_rfl
theorem jo_23:(Rows.topStepsRow.shortTexts.isNone) = true:=by kernel_rfl
theorem jo_24:(Tryz.prog.stopsHeard) = true:=by kernel_rfl
end Go.Proofs.YteiomfgehlojeaaGreatDoor.topSteps
