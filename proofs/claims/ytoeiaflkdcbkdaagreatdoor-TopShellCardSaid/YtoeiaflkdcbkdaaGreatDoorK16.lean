/- TopShell, part 16 of 36. -/
import Derived.Test.YtoeiaflkdcbkdaaGreatDoorK08
namespace Go.Proofs.YtoeiaflkdcbkdaaGreatDoor
open Go.RowKit Go.Sym Go.Proofs.Tryz
theorem ay3 (B:aE):cT oA (fR B 8 true)=true:=by kernel_rfl
theorem ay4 (B:aE):cT oB (fR B 8 true)=true:=by kernel_rfl
theorem ay5 (B:aE):cT oC (fR B 8 true)=true:=by kernel_rfl
theorem ay6 (B:aE):pW (fR B 8 false)=true:=by kernel_rfl
theorem ay7 (B:aE):tZ B 8=true:=by kernel_rfl
theorem ay8 (B:aE):cT oA (fR B 9 true)=true:=by kernel_rfl
theorem ay9 (B:aE):cT oB (fR B 9 true)=true:=by kernel_rfl
theorem azA (B:aE):cT oC (fR B 9 true)=true:=by kernel_rfl
theorem azB (B:aE):pW (fR B 9 false)=true:=by kernel_rfl
theorem azC (B:aE):tZ B 9=true:=by kernel_rfl
end Go.Proofs.YtoeiaflkdcbkdaaGreatDoor
