/- The claim TopSteps, part 25 of 46: Wi3 -/
import Derived.Test.YteiomfgehlojeaaGreatDoorK08
set_option linter.unusedVariables false
set_option linter.unusedSimpArgs false
namespace Go.Proofs.YteiomfgehlojeaaGreatDoor.topSteps
open Go.ChangeShapes Go.WideShapes Go.ChangeAt Go.RowKit
theorem wi_handle (os:Os):((Rows.topStepsRow.laid.filter fun x=>x.2.handleName?.isSome).all (handleAtB Tryz.prog (calledWorld os).memory)) = true:=by kernel_rfl
end Go.Proofs.YteiomfgehlojeaaGreatDoor.topSteps
