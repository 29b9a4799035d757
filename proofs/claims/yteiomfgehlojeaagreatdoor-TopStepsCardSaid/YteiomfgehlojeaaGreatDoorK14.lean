/- The claim TopSteps, part 14 of 46: ELwR4 -/
import Derived.Test.YteiomfgehlojeaaGreatDoorK08
set_option linter.unusedVariables false
set_option linter.unusedSimpArgs false
namespace Go.Sym
open Go Go.Proofs
theorem lw4ttt {B:Base}:lawRun B 4 true true true = true:=by kernel_rfl
theorem lw4ttf {B:Base}:lawRun B 4 true true false = true:=by kernel_rfl
theorem lw4tft {B:Base}:lawRun B 4 true false true = true:=by kernel_rfl
theorem lw4tff {B:Base}:lawRun B 4 true false false = true:=by kernel_rfl
theorem lw4ftt {B:Base}:lawRun B 4 false true true = true:=by kernel_rfl
theorem lw4ftf {B:Base}:lawRun B 4 false true false = true:=by kernel_rfl
theorem lw4fft {B:Base}:lawRun B 4 false false true = true:=by kernel_rfl
theorem lw4fff {B:Base}:lawRun B 4 false false false = true:=by kernel_rfl
theorem lw5ttt {B:Base}:lawRun B 5 true true true = true:=by kernel_rfl
theorem lw5ttf {B:Base}:lawRun B 5 true true false = true:=by kernel_rfl
theorem lw5tft {B:Base}:lawRun B 5 true false true = true:=by kernel_rfl
theorem lw5tff {B:Base}:lawRun B 5 true false false = true:=by kernel_rfl
theorem lw5ftt {B:Base}:lawRun B 5 false true true = true:=by kernel_rfl
theorem lw5ftf {B:Base}:lawRun B 5 false true false = true:=by kernel_rfl
theorem lw5fft {B:Base}:lawRun B 5 false false true = true:=by kernel_rfl
theorem lw5fff {B:Base}:lawRun B 5 false false false = true:=by kernel_rfl
end Go.Sym
