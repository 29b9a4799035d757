/- TopShell, part 13 of 36. -/
import Derived.Test.YtoeiaflkdcbkdaaGreatDoorK08
namespace Go.Proofs.YtoeiaflkdcbkdaaGreatDoor
open Go.RowKit Go.Sym Go.Proofs.Tryz
theorem ax9 (B:aE):cT oA (fR B 2 true)=true:=by kernel_rfl
theorem ayA (B:aE):cT oB (fR B 2 true)=true:=by kernel_rfl
theorem ayB (B:aE):cT oC (fR B 2 true)=true:=by kernel_rfl
theorem ayC (B:aE):pW (fR B 2 false)=true:=by kernel_rfl
theorem ayD (B:aE):tZ B 2=true:=by kernel_rfl
theorem ayE (B:aE):cT oA (fR B 3 true)=true:=by kernel_rfl
theorem ayF (B:aE):cT oB (fR B 3 true)=true:=by kernel_rfl
theorem ayG (B:aE):cT oC (fR B 3 true)=true:=by kernel_rfl
theorem ayH (B:aE):pW (fR B 3 false)=true:=by kernel_rfl
theorem ayI (B:aE):tZ B 3=true:=by kernel_rfl
end Go.Proofs.YtoeiaflkdcbkdaaGreatDoor
