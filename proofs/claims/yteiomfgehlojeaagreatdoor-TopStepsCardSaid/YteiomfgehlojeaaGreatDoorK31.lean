/- The claim TopSteps, part 31 of 46: Jo4 -/
import Derived.Test.YteiomfgehlojeaaGreatDoorRows
import Derived.ProofKit
import Derived.JoinedOf
set_option linter.unusedVariables false
set_option linter.unusedSimpArgs false
namespace Go.Proofs.YteiomfgehlojeaaGreatDoor.topSteps
open Go
theorem jo_11:((Rows.topStepsRow.recurses == Tryz.prog.recurses 3)) = true:=by kernel_rfl
end Go.Proofs.YteiomfgehlojeaaGreatDoor.topSteps
