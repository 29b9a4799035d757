/- The claim TopSteps, part 19 of 46: Ty4 -/
import Derived.Test.YteiomfgehlojeaaGreatDoorRows
import Derived.LaidByTextLater
import Derived.SevenTiedAt
set_option linter.unusedVariables false
set_option linter.unusedSimpArgs false
namespace Go.Proofs.YteiomfgehlojeaaGreatDoor
open Go
theorem ty_d:∀ os tape,varsDone Tryz.prog 400 (varsId Tryz.prog) os tape = true:=fun _ _=>by kernel_rfl
end Go.Proofs.YteiomfgehlojeaaGreatDoor
