/- The claim TopSteps, part 10 of 46: ELwR0 -/
import Derived.Test.YteiomfgehlojeaaGreatDoorK08
set_option linter.unusedVariables false
set_option linter.unusedSimpArgs false
namespace Go.Sym
open Go Go.Proofs
theorem lw0ttt {B:Base}:lawRun B 0 true true true = true:=by kernel_rfl
theorem lw0ttf {B:Base}:lawRun B 0 true true false = true:=by kernel_rfl
theorem lw0tft {B:Base}:lawRun B 0 true false true = true:=by kernel_rfl
theorem lw0tff {B:Base}:lawRun B 0 true false false = true:=by kernel_rfl
theorem lw0ftt {B:Base}:lawRun B 0 false true true = true:=by kernel_rfl
theorem lw0ftf {B:Base}:lawRun B 0 false true false = true:=by kernel_rfl
theorem lw0fft {B:Base}:lawRun B 0 false false true = true:=by kernel_rfl
theorem lw0fff {B:Base}:lawRun B 0 false false false = true:=by kernel_rfl
theorem lw9ttt {B:Base}:lawRun B 9 true true true = true:=by kernel_rfl
theorem lw9ttf {B:Base}:lawRun B 9 true true false = true:=by kernel_rfl
theorem lw9tft {B:Base}:lawRun B 9 true false true = true:=by kernel_rfl
theorem lw9tff {B:Base}:lawRun B 9 true false false = true:=by kernel_rfl
theorem lw9ftt {B:Base}:lawRun B 9 false true true = true:=by kernel_rfl
theorem lw9ftf {B:Base}:lawRun B 9 false true false = true:=by kernel_rfl
theorem lw9fft {B:Base}:lawRun B 9 false false true = true:=by kernel_rfl
theorem lw9fff {B:Base}:lawRun B 9 false false false = true:=by kernel_rfl
end Go.Sym
