/- The claim TopSteps, part 23 of 46: Wi1 -/
import Derived.Test.YteiomfgehlojeaaGreatDoorK08
set_option linter.unusedVariables false
set_option linter.unusedSimpArgs false
namespace Go.Proofs.YteiomfgehlojeaaGreatDoor.topSteps
open Go.ChangeShapes Go.WideShapes Go.ChangeAt Go.RowKit
theorem wi_fits (os:Os):(handledWorld os).layFits Tryz.prog plainL [] = true:=by kernel_rfl
end Go.Proofs.YteiomfgehlojeaaGreatDoor.topSteps
