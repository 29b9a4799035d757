/- The claim TopSteps, part 11 of 46: ELwR1 -/
import Derived.Test.YteiomfgehlojeaaGreatDoorK08
set_option linter.unusedVariables false
set_option linter.unusedSimpArgs false
namespace Go.Sym
open Go Go.Proofs
theorem lw1ttt {B:Base}:lawRun B 1 true true true = true:=by kernel_rfl
theorem lw1ttf {B:Base}:lawRun B 1 true true false = true:=by kernel_rfl
theorem lw1tft {B:Base}:lawRun B 1 true false true = true:=by kernel_rfl
theorem lw1tff {B:Base}:lawRun B 1 true false false = true:=by kernel_rfl
theorem lw1ftt {B:Base}:lawRun B 1 false true true = true:=by kernel_rfl
theorem lw1ftf {B:Base}:lawRun B 1 false true false = true:=by kernel_rfl
theorem lw1fft {B:Base}:lawRun B 1 false false true = true:=by kernel_rfl
theorem lw1fff {B:Base}:lawRun B 1 false false false = true:=by kernel_rfl
theorem lw8ttt {B:Base}:lawRun B 8 true true true = true:=by kernel_rfl
theorem lw8ttf {B:Base}:lawRun B 8 true true false = true:=by kernel_rfl
theorem lw8tft {B:Base}:lawRun B 8 true false true = true:=by kernel_rfl
theorem lw8tff {B:Base}:lawRun B 8 true false false = true:=by kernel_rfl
theorem lw8ftt {B:Base}:lawRun B 8 false true true = true:=by kernel_rfl
theorem lw8ftf {B:Base}:lawRun B 8 false true false = true:=by kernel_rfl
theorem lw8fft {B:Base}:lawRun B 8 false false true = true:=by kernel_rfl
theorem lw8fff {B:Base}:lawRun B 8 false false false = true:=by kernel_rfl
end Go.Sym
