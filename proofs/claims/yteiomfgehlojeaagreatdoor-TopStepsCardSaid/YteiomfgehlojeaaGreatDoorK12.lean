/- The claim TopSteps, part 12 of 46: ELwR2 -/
import Derived.Test.YteiomfgehlojeaaGreatDoorK08
set_option linter.unusedVariables false
set_option linter.unusedSimpArgs false
namespace Go.Sym
open Go Go.Proofs
theorem lw2ttt {B:Base}:lawRun B 2 true true true = true:=by kernel_rfl
theorem lw2ttf {B:Base}:lawRun B 2 true true false = true:=by kernel_rfl
theorem lw2tft {B:Base}:lawRun B 2 true false true = true:=by kernel_rfl
theorem lw2tff {B:Base}:lawRun B 2 true false false = true:=by kernel_rfl
theorem lw2ftt {B:Base}:lawRun B 2 false true true = true:=by kernel_rfl
theorem lw2ftf {B:Base}:lawRun B 2 false true false = true:=by kernel_rfl
theorem lw2fft {B:Base}:lawRun B 2 false false true = true:=by kernel_rfl
theorem lw2fff {B:Base}:lawRun B 2 false false false = true:=by kernel_rfl
theorem lw7ttt {B:Base}:lawRun B 7 true true true = true:=by kernel_rfl
theorem lw7ttf {B:Base}:lawRun B 7 true true false = true:=by kernel_rfl
theorem lw7tft {B:Base}:lawRun B 7 true false true = true:=by kernel_rfl
theorem lw7tff {B:Base}:lawRun B 7 true false false = true:=by kernel_rfl
theorem lw7ftt {B:Base}:lawRun B 7 false true true = true:=by kernel_rfl
theorem lw7ftf {B:Base}:lawRun B 7 false true false = true:=by kernel_rfl
theorem lw7fft {B:Base}:lawRun B 7 false false true = true:=by kernel_rfl
theorem lw7fff {B:Base}:lawRun B 7 false false false = true:=by kernel_rfl
end Go.Sym
