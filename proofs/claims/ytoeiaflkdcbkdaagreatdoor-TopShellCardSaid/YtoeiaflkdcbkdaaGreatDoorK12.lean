/- TopShell, part 12 of 36. -/
import Derived.Test.YtoeiaflkdcbkdaaGreatDoorK08
namespace Go.Proofs.YtoeiaflkdcbkdaaGreatDoor
open Go.RowKit Go.Sym Go.Proofs.Tryz
theorem axZ (B:aE):cT oA (fR B 0 true)=true:=by kernel_rfl
theorem ax0 (B:aE):cT oB (fR B 0 true)=true:=by kernel_rfl
theorem ax1 (B:aE):cT oC (fR B 0 true)=true:=by kernel_rfl
theorem ax2 (B:aE):pW (fR B 0 false)=true:=by kernel_rfl
theorem ax3 (B:aE):tZ B 0=true:=by kernel_rfl
theorem ax4 (B:aE):cT oA (fR B 1 true)=true:=by kernel_rfl
theorem ax5 (B:aE):cT oB (fR B 1 true)=true:=by kernel_rfl
theorem ax6 (B:aE):cT oC (fR B 1 true)=true:=by kernel_rfl
theorem ax7 (B:aE):pW (fR B 1 false)=true:=by kernel_rfl
theorem ax8 (B:aE):tZ B 1=true:=by kernel_rfl
end Go.Proofs.YtoeiaflkdcbkdaaGreatDoor
