/- The claim TopSteps, part 30 of 46: Jo3 -/
import Derived.Test.YteiomfgehlojeaaGreatDoorRows
import Derived.ProofKit
import Derived.JoinedOf
set_option linter.unusedVariables false
set_option linter.unusedSimpArgs false
namespace Go.Proofs.YteiomfgehlojeaaGreatDoor.topSteps
open Go
theorem jo_10:((Rows.topStepsRow.unfollowed == Tryz.prog.unfollowed 3)) = true:=by kernel_rfl
end Go.Proofs.YteiomfgehlojeaaGreatDoor.topSteps
