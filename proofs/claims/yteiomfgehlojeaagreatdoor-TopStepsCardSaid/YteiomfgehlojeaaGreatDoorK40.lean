/- The claim TopSteps, part 40 of 46: ELcR4 -/
import Derived.Test.YteiomfgehlojeaaGreatDoorK35
set_option linter.unusedVariables false
set_option linter.unusedSimpArgs false
namespace Go.Sym
open Go Go.Proofs
theorem loc36 {B:Base}:locRun B [35,44,35,35,44,35,48,46,35,59,39,35,39,35,45,39,35,39] [36] [37] true [[35]] = true:=by kernel_rfl
theorem loc37 {B:Base}:locRun B [35,44,35,35,44,35,48,46,35,59,39,35,39,35,45,39,35,39] [226,130,172] [217,170] true [[35]] = true:=by kernel_rfl
theorem loc38 {B:Base}:locRun B [35,44,35,35,44,35,48,46,35,59,39,35,39,35,45,39,35,39] [67,72,70] [37] true [[35]] = true:=by kernel_rfl
theorem loc39 {B:Base}:locRun B [35,44,35,35,44,35,48,46,35,59,39,35,39,35,45,39,35,39] [107,204,129,114] [217,170] true [[35]] = true:=by kernel_rfl
theorem loc40 {B:Base}:locRun B [194,164,35,44,35,35,48,46,48,48] [69,71,80] [217,170] true [[69],[71],[80]] = true:=by kernel_rfl
theorem loc41 {B:Base}:locRun B [48,46,48,48,194,160,194,164] [66,71,78] [37] false [[66],[71],[78],[194,160]] = true:=by kernel_rfl
theorem loc42 {B:Base}:locRun B [35,44,35,35,44,35,35,48,46,48,48,194,164] [224,167,179] [37] true [[224,167,179]] = true:=by kernel_rfl
theorem loc43 {B:Base}:locRun B [35,44,35,35,48,46,48,48,194,160,194,164] [75,196,141] [37] true [[75],[194,160],[196,141]] = true:=by kernel_rfl
theorem loc44 {B:Base}:locRun B [35,44,35,35,48,46,48,48,194,160,194,164] [107,114] [37] true [[107],[114],[194,160]] = true:=by kernel_rfl
end Go.Sym
