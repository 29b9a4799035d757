/- The claim TopSteps, part 17 of 46: Ty2 -/
import Derived.Test.YteiomfgehlojeaaGreatDoorRows
import Derived.LaidByTextLater
import Derived.SevenTiedAt
set_option linter.unusedVariables false
set_option linter.unusedSimpArgs false
namespace Go.Proofs.YteiomfgehlojeaaGreatDoor
open Go
theorem ty_pin:Tryz.pinned.checked.prog.pinnedFits "unicode/utf8.first" = true:=by kernel_rfl
end Go.Proofs.YteiomfgehlojeaaGreatDoor
