/- The claim TopSteps, part 28 of 46: Jo0 -/
import Derived.Test.YteiomfgehlojeaaGreatDoorRows
import Derived.ProofKit
import Derived.JoinedOf
set_option linter.unusedVariables false
set_option linter.unusedSimpArgs false
namespace Go.Proofs.YteiomfgehlojeaaGreatDoor.topSteps
open Go
theorem jo_0:(Rows.topStepsRow.wf (OpenSpec.ofChange Rows.topStepsSpec)) = true:=by kernel_rfl
theorem jo_1:(laidOutB Tryz.prog) = true:=by kernel_rfl
theorem jo_2:(mapsRowed Tryz.prog) = true:=by kernel_rfl
theorem jo_3:(Tryz.f3.params.all (Tryz.prog.readableRec ·)) = true:=by kernel_rfl
end Go.Proofs.YteiomfgehlojeaaGreatDoor.topSteps
