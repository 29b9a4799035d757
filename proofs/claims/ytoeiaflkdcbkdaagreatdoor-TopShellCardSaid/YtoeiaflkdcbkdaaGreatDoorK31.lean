/- TopShell, part 31 of 36. -/
import Derived.Test.YtoeiaflkdcbkdaaGreatDoorK23
namespace Go.Proofs.YtoeiaflkdcbkdaaGreatDoor
open Go.RowKit Go.Sym Go.Proofs.Tryz
theorem arL (B:aE):bP B (locT.getD 20 bO)=true:=by kernel_rfl
theorem arM (B:aE):bP B (locT.getD 21 bO)=true:=by kernel_rfl
theorem arN (B:aE):bP B (locT.getD 22 bO)=true:=by kernel_rfl
theorem arO (B:aE):bP B (locT.getD 23 bO)=true:=by kernel_rfl
theorem arQ (B:aE):bP B (locT.getD 24 bO)=true:=by kernel_rfl
theorem arR (B:aE):bP B (locT.getD 25 bO)=true:=by kernel_rfl
theorem arS (B:aE):bP B (locT.getD 26 bO)=true:=by kernel_rfl
theorem arT (B:aE):bP B (locT.getD 27 bO)=true:=by kernel_rfl
theorem arU (B:aE):bP B (locT.getD 28 bO)=true:=by kernel_rfl
theorem arV (B:aE):bP B (locT.getD 29 bO)=true:=by kernel_rfl
end Go.Proofs.YtoeiaflkdcbkdaaGreatDoor
