/- TopShell, part 26 of 36. -/
import Derived.Test.YtoeiaflkdcbkdaaGreatDoorK23
namespace Go.Proofs.YtoeiaflkdcbkdaaGreatDoor
open Go.RowKit Go.Sym Go.Proofs.Tryz
theorem aqB (B:aE):cD B (locT.getD 10 bO)=true:=by kernel_rfl
theorem aqC (B:aE):cD B (locT.getD 11 bO)=true:=by kernel_rfl
theorem aqD (B:aE):cD B (locT.getD 12 bO)=true:=by kernel_rfl
theorem aqE (B:aE):cD B (locT.getD 13 bO)=true:=by kernel_rfl
theorem aqF (B:aE):cD B (locT.getD 14 bO)=true:=by kernel_rfl
theorem aqG (B:aE):cD B (locT.getD 15 bO)=true:=by kernel_rfl
theorem aqH (B:aE):cD B (locT.getD 16 bO)=true:=by kernel_rfl
theorem aqI (B:aE):cD B (locT.getD 17 bO)=true:=by kernel_rfl
theorem aqJ (B:aE):cD B (locT.getD 18 bO)=true:=by kernel_rfl
theorem aqK (B:aE):cD B (locT.getD 19 bO)=true:=by kernel_rfl
end Go.Proofs.YtoeiaflkdcbkdaaGreatDoor
