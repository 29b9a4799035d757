/- TopShell, part 25 of 36. -/
import Derived.Test.YtoeiaflkdcbkdaaGreatDoorK23
namespace Go.Proofs.YtoeiaflkdcbkdaaGreatDoor
open Go.RowKit Go.Sym Go.Proofs.Tryz
theorem av7 (B:aE):cD B (locT.getD 0 bO)=true:=by kernel_rfl
theorem av8 (B:aE):cD B (locT.getD 1 bO)=true:=by kernel_rfl
theorem av9 (B:aE):cD B (locT.getD 2 bO)=true:=by kernel_rfl
theorem awA (B:aE):cD B (locT.getD 3 bO)=true:=by kernel_rfl
theorem awC (B:aE):cD B (locT.getD 4 bO)=true:=by kernel_rfl
theorem awD (B:aE):cD B (locT.getD 5 bO)=true:=by kernel_rfl
theorem awE (B:aE):cD B (locT.getD 6 bO)=true:=by kernel_rfl
theorem awF (B:aE):cD B (locT.getD 7 bO)=true:=by kernel_rfl
theorem awG (B:aE):cD B (locT.getD 8 bO)=true:=by kernel_rfl
theorem awH (B:aE):cD B (locT.getD 9 bO)=true:=by kernel_rfl
end Go.Proofs.YtoeiaflkdcbkdaaGreatDoor
