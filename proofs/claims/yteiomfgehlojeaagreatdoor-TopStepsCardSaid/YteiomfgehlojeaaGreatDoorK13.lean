/- The claim TopSteps, part 13 of 46: ELwR3 -/
import Derived.Test.YteiomfgehlojeaaGreatDoorK08
set_option linter.unusedVariables false
set_option linter.unusedSimpArgs false
namespace Go.Sym
open Go Go.Proofs
theorem lw3ttt {B:Base}:lawRun B 3 true true true = true:=by kernel_rfl
theorem lw3ttf {B:Base}:lawRun B 3 true true false = true:=by kernel_rfl
theorem lw3tft {B:Base}:lawRun B 3 true false true = true:=by kernel_rfl
theorem lw3tff {B:Base}:lawRun B 3 true false false = true:=by kernel_rfl
theorem lw3ftt {B:Base}:lawRun B 3 false true true = true:=by kernel_rfl
theorem lw3ftf {B:Base}:lawRun B 3 false true false = true:=by kernel_rfl
theorem lw3fft {B:Base}:lawRun B 3 false false true = true:=by kernel_rfl
theorem lw3fff {B:Base}:lawRun B 3 false false false = true:=by kernel_rfl
theorem lw6ttt {B:Base}:lawRun B 6 true true true = true:=by kernel_rfl
theorem lw6ttf {B:Base}:lawRun B 6 true true false = true:=by kernel_rfl
theorem lw6tft {B:Base}:lawRun B 6 true false true = true:=by kernel_rfl
theorem lw6tff {B:Base}:lawRun B 6 true false false = true:=by kernel_rfl
theorem lw6ftt {B:Base}:lawRun B 6 false true true = true:=by kernel_rfl
theorem lw6ftf {B:Base}:lawRun B 6 false true false = true:=by kernel_rfl
theorem lw6fft {B:Base}:lawRun B 6 false false true = true:=by kernel_rfl
theorem lw6fff {B:Base}:lawRun B 6 false false false = true:=by kernel_rfl
end Go.Sym
