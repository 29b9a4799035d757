/- The claim TopSteps, part 27 of 46: Wi5 -/
import Derived.Test.YteiomfgehlojeaaGreatDoorK08
set_option linter.unusedVariables false
set_option linter.unusedSimpArgs false
namespace Go.Proofs.YteiomfgehlojeaaGreatDoor.topSteps
open Go.ChangeShapes Go.WideShapes Go.ChangeAt Go.RowKit
theorem wi_rest (os : Os) : ((calledWorld os).heap.toList.drop Tryz.prog.globals.size).take ((begin Tryz.prog (fun _ _ => 0) default).world.heap.size - Tryz.prog.globals.size) =
      (begin Tryz.prog (fun _ _=>0) default).world.heap.toList.drop Tryz.prog.globals.size:=by kernel_rfl
end Go.Proofs.YteiomfgehlojeaaGreatDoor.topSteps
