/- The claim TopSteps, part 16 of 46: Ty1 -/
import Derived.Test.YteiomfgehlojeaaGreatDoorRows
import Derived.LaidByTextLater
import Derived.SevenTiedAt
set_option linter.unusedVariables false
set_option linter.unusedSimpArgs false
namespace Go.Proofs.YteiomfgehlojeaaGreatDoor
open Go
theorem ty_w2:Tryz.prog.worded (varsWordLater !true) = false:=by kernel_rfl
theorem ty_w3:Tryz.prog.worded rootWordLater = true:=by kernel_rfl
end Go.Proofs.YteiomfgehlojeaaGreatDoor
