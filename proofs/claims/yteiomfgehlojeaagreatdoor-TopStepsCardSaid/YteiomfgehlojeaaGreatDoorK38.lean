/- The claim TopSteps, part 38 of 46: ELcR2 -/
import Derived.Test.YteiomfgehlojeaaGreatDoorK35
set_option linter.unusedVariables false
set_option linter.unusedSimpArgs false
namespace Go.Sym
open Go Go.Proofs
theorem loc18 {B:Base}:locRun B [35,44,35,35,48,46,48,48,120,194,164] [67,72,70] [37] true [[67],[70],[72],[120]] = true:=by kernel_rfl
theorem loc19 {B:Base}:locRun B [35,44,35,35,48,46,48,48,120,194,164] [107,204,129,114] [217,170] true [[107,204,129],[114],[120]] = true:=by kernel_rfl
theorem loc20 {B:Base}:locRun B [194,164,120,35,44,35,35,48,46,48,48,59,40,194,164,120,45,35,41] [36] [37] true [[36],[40],[41],[120]] = true:=by kernel_rfl
theorem loc21 {B:Base}:locRun B [194,164,120,35,44,35,35,48,46,48,48,59,40,194,164,120,45,35,41] [226,130,172] [217,170] true [[40],[41],[120],[226,130,172]] = true:=by kernel_rfl
theorem loc22 {B:Base}:locRun B [194,164,120,35,44,35,35,48,46,48,48,59,40,194,164,120,45,35,41] [67,72,70] [37] true [[40],[41],[67],[70],[72],[120]] = true:=by kernel_rfl
theorem loc23 {B:Base}:locRun B [194,164,120,35,44,35,35,48,46,48,48,59,40,194,164,120,45,35,41] [107,204,129,114] [217,170] true [[40],[41],[107,204,129],[114],[120]] = true:=by kernel_rfl
theorem loc24 {B:Base}:locRun B [35,44,35,35,48,37] [36] [37] true [[37]] = true:=by kernel_rfl
theorem loc25 {B:Base}:locRun B [35,44,35,35,48,37] [226,130,172] [217,170] true [[217,170]] = true:=by kernel_rfl
theorem loc26 {B:Base}:locRun B [35,44,35,35,48,37] [67,72,70] [37] true [[37]] = true:=by kernel_rfl
end Go.Sym
