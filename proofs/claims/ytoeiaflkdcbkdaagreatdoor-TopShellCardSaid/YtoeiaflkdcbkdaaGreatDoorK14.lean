/- TopShell, part 14 of 36. -/
import Derived.Test.YtoeiaflkdcbkdaaGreatDoorK08
namespace Go.Proofs.YtoeiaflkdcbkdaaGreatDoor
open Go.RowKit Go.Sym Go.Proofs.Tryz
theorem ayJ (B:aE):cT oA (fR B 4 true)=true:=by kernel_rfl
theorem ayK (B:aE):cT oB (fR B 4 true)=true:=by kernel_rfl
theorem ayL (B:aE):cT oC (fR B 4 true)=true:=by kernel_rfl
theorem ayM (B:aE):pW (fR B 4 false)=true:=by kernel_rfl
theorem ayN (B:aE):tZ B 4=true:=by kernel_rfl
theorem ayO (B:aE):cT oA (fR B 5 true)=true:=by kernel_rfl
theorem ayP (B:aE):cT oB (fR B 5 true)=true:=by kernel_rfl
theorem ayQ (B:aE):cT oC (fR B 5 true)=true:=by kernel_rfl
theorem ayR (B:aE):pW (fR B 5 false)=true:=by kernel_rfl
theorem ayS (B:aE):tZ B 5=true:=by kernel_rfl
end Go.Proofs.YtoeiaflkdcbkdaaGreatDoor
