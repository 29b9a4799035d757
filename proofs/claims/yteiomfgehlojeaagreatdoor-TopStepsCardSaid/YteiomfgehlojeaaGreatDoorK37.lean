/- The claim TopSteps, part 37 of 46: ELcR1 -/
import Derived.Test.YteiomfgehlojeaaGreatDoorK35
set_option linter.unusedVariables false
set_option linter.unusedSimpArgs false
namespace Go.Sym
open Go Go.Proofs
theorem loc9 {B:Base}:locRun B [35,44,35,35,44,35,35,48,46,35,35,35] [226,130,172] [217,170] true [] = true:=by kernel_rfl
theorem loc10 {B:Base}:locRun B [35,44,35,35,44,35,35,48,46,35,35,35] [67,72,70] [37] true [] = true:=by kernel_rfl
theorem loc11 {B:Base}:locRun B [35,44,35,35,44,35,35,48,46,35,35,35] [107,204,129,114] [217,170] true [] = true:=by kernel_rfl
theorem loc12 {B:Base}:locRun B [194,164,35,44,35,35,48,46,48,48] [36] [37] true [[36]] = true:=by kernel_rfl
theorem loc13 {B:Base}:locRun B [194,164,35,44,35,35,48,46,48,48] [226,130,172] [217,170] true [[226,130,172]] = true:=by kernel_rfl
theorem loc14 {B:Base}:locRun B [194,164,35,44,35,35,48,46,48,48] [67,72,70] [37] true [[67],[70],[72]] = true:=by kernel_rfl
theorem loc15 {B:Base}:locRun B [194,164,35,44,35,35,48,46,48,48] [107,204,129,114] [217,170] true [[107,204,129],[114]] = true:=by kernel_rfl
theorem loc16 {B:Base}:locRun B [35,44,35,35,48,46,48,48,120,194,164] [36] [37] true [[36],[120]] = true:=by kernel_rfl
theorem loc17 {B:Base}:locRun B [35,44,35,35,48,46,48,48,120,194,164] [226,130,172] [217,170] true [[120],[226,130,172]] = true:=by kernel_rfl
end Go.Sym
