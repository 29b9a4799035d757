/- The claim TopSteps, part 29 of 46: Jo2 -/
import Derived.Test.YteiomfgehlojeaaGreatDoorRows
import Derived.ProofKit
import Derived.JoinedOf
set_option linter.unusedVariables false
set_option linter.unusedSimpArgs false
namespace Go.Proofs.YteiomfgehlojeaaGreatDoor.topSteps
open Go
theorem jo_9:((Rows.topStepsRow.inPlace == Tryz.prog.inPlace 3)) = true:=by kernel_rfl
end Go.Proofs.YteiomfgehlojeaaGreatDoor.topSteps
