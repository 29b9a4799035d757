/- The claim TopSteps, part 41 of 46: ELcR5 -/
import Derived.Test.YteiomfgehlojeaaGreatDoorK35
set_option linter.unusedVariables false
set_option linter.unusedSimpArgs false
namespace Go.Sym
open Go Go.Proofs
theorem loc45 {B:Base}:locRun B [194,164,194,160,35,44,35,35,48,46,48,48] [226,130,172] [37] true [[194,160],[226,130,172]] = true:=by kernel_rfl
theorem loc46 {B:Base}:locRun B [194,164,194,160,35,44,35,35,48,46,48,48,59,194,164,45,35,44,35,35,48,46,48,48] [67,72,70] [37] true [[67],[70],[72],[194,160]] = true:=by kernel_rfl
theorem loc47 {B:Base}:locRun B [35,44,35,35,48,46,48,48,194,160,194,164] [226,130,172] [37] true [[194,160],[226,130,172]] = true:=by kernel_rfl
theorem loc48 {B:Base}:locRun B [194,164,35,44,35,35,44,35,35,48,46,48,48] [78,117] [37] true [[78],[117]] = true:=by kernel_rfl
theorem loc49 {B:Base}:locRun B [194,164,35,44,35,35,48,46,48,48] [194,163] [37] true [[194,163]] = true:=by kernel_rfl
theorem loc50 {B:Base}:locRun B [194,164,35,44,35,35,44,35,35,48,46,48,48] [226,130,185] [37] true [[226,130,185]] = true:=by kernel_rfl
theorem loc51 {B:Base}:locRun B [35,44,35,35,48,46,48,48] [] [217,170] true [] = true:=by kernel_rfl
theorem loc52 {B:Base}:locRun B [35,44,35,35,48,46,48,48,194,160,194,164] [36] [37] true [[36],[194,160]] = true:=by kernel_rfl
theorem loc53 {B:Base}:locRun B [35,44,35,35,48,46,48,48,194,160,194,164] [226,130,170] [37] true [[194,160],[226,130,170]] = true:=by kernel_rfl
end Go.Sym
