/- The claim TopSteps, part 42 of 46: ELcR6 -/
import Derived.Test.YteiomfgehlojeaaGreatDoorK35
set_option linter.unusedVariables false
set_option linter.unusedSimpArgs false
namespace Go.Sym
open Go Go.Proofs
theorem loc54 {B:Base}:locRun B [35,44,35,35,48,46,48,48,194,160,194,164] [70,116] [37] true [[70],[116],[194,160]] = true:=by kernel_rfl
theorem loc55 {B:Base}:locRun B [194,164,194,160,35,44,35,35,48,46,48,48] [82,112] [37] true [[82],[112],[194,160]] = true:=by kernel_rfl
theorem loc56 {B:Base}:locRun B [194,164,35,44,35,35,48] [239,191,165] [37] true [[239,191,165]] = true:=by kernel_rfl
theorem loc57 {B:Base}:locRun B [35,44,35,35,48,46,48,48,194,164] [225,159,155] [37] true [[225,159,155]] = true:=by kernel_rfl
theorem loc58 {B:Base}:locRun B [194,164,35,44,35,35,48] [226,130,169] [37] true [[226,130,169]] = true:=by kernel_rfl
theorem loc59 {B:Base}:locRun B [194,164,35,44,35,35,48,46,48,48,59,194,164,45,35,44,35,35,48,46,48,48] [226,130,173] [37] true [[226,130,173]] = true:=by kernel_rfl
theorem loc60 {B:Base}:locRun B [35,44,35,35,48,46,48,48,194,160,194,164] [75] [37] true [[75],[194,160]] = true:=by kernel_rfl
theorem loc61 {B:Base}:locRun B [194,164,194,160,35,44,35,35,48,46,48,48,59,194,164,194,160,45,35,44,35,35,48,46,48,48] [107,114] [37] true [[107],[114],[194,160]] = true:=by kernel_rfl
theorem loc62 {B:Base}:locRun B [194,164,194,160,35,44,35,35,48,46,48,48,59,194,164,194,160,45,35,44,35,35,48,46,48,48] [226,130,172] [37] true [[194,160],[226,130,172]] = true:=by kernel_rfl
end Go.Sym
