/- The claim TopSteps, part 36 of 46: ELcR0 -/
import Derived.Test.YteiomfgehlojeaaGreatDoorK35
set_option linter.unusedVariables false
set_option linter.unusedSimpArgs false
namespace Go.Sym
open Go Go.Proofs
theorem loc0 {B:Base}:locRun B [35,44,35,35,48,46,48,48] [36] [37] true [] = true:=by kernel_rfl
theorem loc1 {B:Base}:locRun B [35,44,35,35,48,46,48,48] [226,130,172] [217,170] true [] = true:=by kernel_rfl
theorem loc2 {B:Base}:locRun B [35,44,35,35,48,46,48,48] [67,72,70] [37] true [] = true:=by kernel_rfl
theorem loc3 {B:Base}:locRun B [35,44,35,35,48,46,48,48] [107,204,129,114] [217,170] true [] = true:=by kernel_rfl
theorem loc4 {B:Base}:locRun B [48,46,35,35] [36] [37] false [] = true:=by kernel_rfl
theorem loc5 {B:Base}:locRun B [48,46,35,35] [226,130,172] [217,170] false [] = true:=by kernel_rfl
theorem loc6 {B:Base}:locRun B [48,46,35,35] [67,72,70] [37] false [] = true:=by kernel_rfl
theorem loc7 {B:Base}:locRun B [48,46,35,35] [107,204,129,114] [217,170] false [] = true:=by kernel_rfl
theorem loc8 {B:Base}:locRun B [35,44,35,35,44,35,35,48,46,35,35,35] [36] [37] true [] = true:=by kernel_rfl
end Go.Sym
