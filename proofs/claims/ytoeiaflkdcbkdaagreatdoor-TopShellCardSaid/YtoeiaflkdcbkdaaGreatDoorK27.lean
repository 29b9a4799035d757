/- TopShell, part 27 of 36. -/
import Derived.Test.YtoeiaflkdcbkdaaGreatDoorK23
namespace Go.Proofs.YtoeiaflkdcbkdaaGreatDoor
open Go.RowKit Go.Sym Go.Proofs.Tryz
theorem aqL (B:aE):cD B (locT.getD 20 bO)=true:=by kernel_rfl
theorem aqM (B:aE):cD B (locT.getD 21 bO)=true:=by kernel_rfl
theorem aqN (B:aE):cD B (locT.getD 22 bO)=true:=by kernel_rfl
theorem aqO (B:aE):cD B (locT.getD 23 bO)=true:=by kernel_rfl
theorem aqP (B:aE):cD B (locT.getD 24 bO)=true:=by kernel_rfl
theorem aqQ (B:aE):cD B (locT.getD 25 bO)=true:=by kernel_rfl
theorem aqR (B:aE):cD B (locT.getD 26 bO)=true:=by kernel_rfl
theorem aqS (B:aE):cD B (locT.getD 27 bO)=true:=by kernel_rfl
theorem aqT (B:aE):cD B (locT.getD 28 bO)=true:=by kernel_rfl
theorem aqU (B:aE):cD B (locT.getD 29 bO)=true:=by kernel_rfl
end Go.Proofs.YtoeiaflkdcbkdaaGreatDoor
