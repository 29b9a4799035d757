/- The claim TopSteps, part 34 of 46: Jo8 -/
import Derived.Test.YteiomfgehlojeaaGreatDoorRows
import Derived.ProofKit
import Derived.JoinedOf
set_option linter.unusedVariables false
set_option linter.unusedSimpArgs false
namespace Go.Proofs.YteiomfgehlojeaaGreatDoor.topSteps
open Go
theorem jo_25:(Tryz.prog.mayEnter) = true:=by kernel_rfl
end Go.Proofs.YteiomfgehlojeaaGreatDoor.topSteps
