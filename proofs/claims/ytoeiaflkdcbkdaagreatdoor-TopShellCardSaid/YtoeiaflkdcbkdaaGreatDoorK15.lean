/- TopShell, part 15 of 36. -/
import Derived.Test.YtoeiaflkdcbkdaaGreatDoorK08
namespace Go.Proofs.YtoeiaflkdcbkdaaGreatDoor
open Go.RowKit Go.Sym Go.Proofs.Tryz
theorem ayT (B:aE):cT oA (fR B 6 true)=true:=by kernel_rfl
theorem ayU (B:aE):cT oB (fR B 6 true)=true:=by kernel_rfl
theorem ayV (B:aE):cT oC (fR B 6 true)=true:=by kernel_rfl
theorem ayW (B:aE):pW (fR B 6 false)=true:=by kernel_rfl
theorem ayX (B:aE):tZ B 6=true:=by kernel_rfl
theorem ayY (B:aE):cT oA (fR B 7 true)=true:=by kernel_rfl
theorem ayZ (B:aE):cT oB (fR B 7 true)=true:=by kernel_rfl
theorem ay0 (B:aE):cT oC (fR B 7 true)=true:=by kernel_rfl
theorem ay1 (B:aE):pW (fR B 7 false)=true:=by kernel_rfl
theorem ay2 (B:aE):tZ B 7=true:=by kernel_rfl
end Go.Proofs.YtoeiaflkdcbkdaaGreatDoor
