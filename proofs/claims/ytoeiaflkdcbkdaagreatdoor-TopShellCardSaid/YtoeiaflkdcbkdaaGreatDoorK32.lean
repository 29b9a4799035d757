/- TopShell, part 32 of 36. -/
import Derived.Test.YtoeiaflkdcbkdaaGreatDoorK23
namespace Go.Proofs.YtoeiaflkdcbkdaaGreatDoor
open Go.RowKit Go.Sym Go.Proofs.Tryz
theorem arX (B:aE):bP B (locT.getD 30 bO)=true:=by kernel_rfl
theorem arY (B:aE):bP B (locT.getD 31 bO)=true:=by kernel_rfl
theorem arZ (B:aE):bP B (locT.getD 32 bO)=true:=by kernel_rfl
theorem ar0 (B:aE):bP B (locT.getD 33 bO)=true:=by kernel_rfl
theorem ar1 (B:aE):bP B (locT.getD 34 bO)=true:=by kernel_rfl
theorem ar2 (B:aE):bP B (locT.getD 35 bO)=true:=by kernel_rfl
theorem ar3 (B:aE):bP B (locT.getD 36 bO)=true:=by kernel_rfl
theorem ar4 (B:aE):bP B (locT.getD 37 bO)=true:=by kernel_rfl
theorem ar5 (B:aE):bP B (locT.getD 38 bO)=true:=by kernel_rfl
theorem ar6 (B:aE):bP B (locT.getD 39 bO)=true:=by kernel_rfl
end Go.Proofs.YtoeiaflkdcbkdaaGreatDoor
