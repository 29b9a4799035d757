/- TopShell, part 28 of 36. -/
import Derived.Test.YtoeiaflkdcbkdaaGreatDoorK23
namespace Go.Proofs.YtoeiaflkdcbkdaaGreatDoor
open Go.RowKit Go.Sym Go.Proofs.Tryz
theorem aqV (B:aE):cD B (locT.getD 30 bO)=true:=by kernel_rfl
theorem aqW (B:aE):cD B (locT.getD 31 bO)=true:=by kernel_rfl
theorem aqX (B:aE):cD B (locT.getD 32 bO)=true:=by kernel_rfl
theorem aqY (B:aE):cD B (locT.getD 33 bO)=true:=by kernel_rfl
theorem aqZ (B:aE):cD B (locT.getD 34 bO)=true:=by kernel_rfl
theorem aq0 (B:aE):cD B (locT.getD 35 bO)=true:=by kernel_rfl
theorem aq1 (B:aE):cD B (locT.getD 36 bO)=true:=by kernel_rfl
theorem aq2 (B:aE):cD B (locT.getD 37 bO)=true:=by kernel_rfl
theorem aq3 (B:aE):cD B (locT.getD 38 bO)=true:=by kernel_rfl
theorem aq4 (B:aE):cD B (locT.getD 39 bO)=true:=by kernel_rfl
end Go.Proofs.YtoeiaflkdcbkdaaGreatDoor
