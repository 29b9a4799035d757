/- The claim TopSteps, part 24 of 46: Wi2 -/
import Derived.Test.YteiomfgehlojeaaGreatDoorK08
set_option linter.unusedVariables false
set_option linter.unusedSimpArgs false
namespace Go.Proofs.YteiomfgehlojeaaGreatDoor.topSteps
open Go.ChangeShapes Go.WideShapes Go.ChangeAt Go.RowKit
theorem wi_ifaces (os:Os):(handledWorld os).layIfaces Tryz.prog plainL (laidWorld os) = true:=by kernel_rfl
end Go.Proofs.YteiomfgehlojeaaGreatDoor.topSteps
