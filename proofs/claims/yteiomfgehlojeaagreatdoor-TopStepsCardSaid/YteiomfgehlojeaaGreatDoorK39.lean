/- The claim TopSteps, part 39 of 46: ELcR3 -/
import Derived.Test.YteiomfgehlojeaaGreatDoorK35
set_option linter.unusedVariables false
set_option linter.unusedSimpArgs false
namespace Go.Sym
open Go Go.Proofs
theorem loc27 {B:Base}:locRun B [35,44,35,35,48,37] [107,204,129,114] [217,170] true [[217,170]] = true:=by kernel_rfl
theorem loc28 {B:Base}:locRun B [48,46,48,59,48,46,48,45] [36] [37] false [] = true:=by kernel_rfl
theorem loc29 {B:Base}:locRun B [48,46,48,59,48,46,48,45] [226,130,172] [217,170] false [] = true:=by kernel_rfl
theorem loc30 {B:Base}:locRun B [48,46,48,59,48,46,48,45] [67,72,70] [37] false [] = true:=by kernel_rfl
theorem loc31 {B:Base}:locRun B [48,46,48,59,48,46,48,45] [107,204,129,114] [217,170] false [] = true:=by kernel_rfl
theorem loc32 {B:Base}:locRun B [35,44,35,35,35,48,46,48,48,121,59,121,35,44,35,35,48,46,48,48,45,121] [36] [37] true [[121]] = true:=by kernel_rfl
theorem loc33 {B:Base}:locRun B [35,44,35,35,35,48,46,48,48,121,59,121,35,44,35,35,48,46,48,48,45,121] [226,130,172] [217,170] true [[121]] = true:=by kernel_rfl
theorem loc34 {B:Base}:locRun B [35,44,35,35,35,48,46,48,48,121,59,121,35,44,35,35,48,46,48,48,45,121] [67,72,70] [37] true [[121]] = true:=by kernel_rfl
theorem loc35 {B:Base}:locRun B [35,44,35,35,35,48,46,48,48,121,59,121,35,44,35,35,48,46,48,48,45,121] [107,204,129,114] [217,170] true [[121]] = true:=by kernel_rfl
end Go.Sym
