/- TopShell, part 29 of 36. -/
import Derived.Test.YtoeiaflkdcbkdaaGreatDoorK23
namespace Go.Proofs.YtoeiaflkdcbkdaaGreatDoor
open Go.RowKit Go.Sym Go.Proofs.Tryz
theorem awK (B:aE):bP B (locT.getD 0 bO)=true:=by kernel_rfl
theorem awL (B:aE):bP B (locT.getD 1 bO)=true:=by kernel_rfl
theorem awM (B:aE):bP B (locT.getD 2 bO)=true:=by kernel_rfl
theorem awN (B:aE):bP B (locT.getD 3 bO)=true:=by kernel_rfl
theorem awO (B:aE):bP B (locT.getD 4 bO)=true:=by kernel_rfl
theorem awP (B:aE):bP B (locT.getD 5 bO)=true:=by kernel_rfl
theorem awQ (B:aE):bP B (locT.getD 6 bO)=true:=by kernel_rfl
theorem awR (B:aE):bP B (locT.getD 7 bO)=true:=by kernel_rfl
theorem awS (B:aE):bP B (locT.getD 8 bO)=true:=by kernel_rfl
theorem awT (B:aE):bP B (locT.getD 9 bO)=true:=by kernel_rfl
end Go.Proofs.YtoeiaflkdcbkdaaGreatDoor
