/- The claim TopSteps, part 43 of 46: ELcR7 -/
import Derived.Test.YteiomfgehlojeaaGreatDoorK35
set_option linter.unusedVariables false
set_option linter.unusedSimpArgs false
namespace Go.Sym
open Go Go.Proofs
theorem loc63 {B:Base}:locRun B [35,44,35,35,48,46,48,48,194,160,194,164] [122,197,130] [37] true [[122],[194,160],[197,130]] = true:=by kernel_rfl
theorem loc64 {B:Base}:locRun B [194,164,194,160,35,44,35,35,48,46,48,48] [82,36] [37] true [[36],[82],[194,160]] = true:=by kernel_rfl
theorem loc65 {B:Base}:locRun B [35,44,35,35,48,46,48,48,194,160,194,164] [226,130,189] [37] true [[194,160],[226,130,189]] = true:=by kernel_rfl
theorem loc66 {B:Base}:locRun B [35,44,35,35,48,46,35,35,37] [] [37] true [[37]] = true:=by kernel_rfl
theorem loc67 {B:Base}:locRun B [194,164,194,160,35,44,35,35,44,35,35,48,46,48,48] [226,130,185] [37] true [[194,160],[226,130,185]] = true:=by kernel_rfl
theorem loc68 {B:Base}:locRun B [194,164,35,44,35,35,48,46,48,48] [224,184,191] [37] true [[224,184,191]] = true:=by kernel_rfl
theorem loc69 {B:Base}:locRun B [194,164,35,44,35,35,48,46,48,48] [194,165] [37] true [[194,165]] = true:=by kernel_rfl
end Go.Sym
