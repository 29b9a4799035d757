/- The claim TopSteps, part 26 of 46: Wi4 -/
import Derived.Test.YteiomfgehlojeaaGreatDoorK08
set_option linter.unusedVariables false
set_option linter.unusedSimpArgs false
namespace Go.Proofs.YteiomfgehlojeaaGreatDoor.topSteps
open Go.ChangeShapes Go.WideShapes Go.ChangeAt Go.RowKit
theorem wi_zip (os:Os):(calledWorld os).variablesZipB Tryz.prog = true:=by kernel_rfl
end Go.Proofs.YteiomfgehlojeaaGreatDoor.topSteps
