/- TopShell, part 30 of 36. -/
import Derived.Test.YtoeiaflkdcbkdaaGreatDoorK23
namespace Go.Proofs.YtoeiaflkdcbkdaaGreatDoor
open Go.RowKit Go.Sym Go.Proofs.Tryz
theorem aq7 (B:aE):bP B (locT.getD 10 bO)=true:=by kernel_rfl
theorem aq8 (B:aE):bP B (locT.getD 11 bO)=true:=by kernel_rfl
theorem aq9 (B:aE):bP B (locT.getD 12 bO)=true:=by kernel_rfl
theorem arA (B:aE):bP B (locT.getD 13 bO)=true:=by kernel_rfl
theorem arD (B:aE):bP B (locT.getD 14 bO)=true:=by kernel_rfl
theorem arF (B:aE):bP B (locT.getD 15 bO)=true:=by kernel_rfl
theorem arG (B:aE):bP B (locT.getD 16 bO)=true:=by kernel_rfl
theorem arH (B:aE):bP B (locT.getD 17 bO)=true:=by kernel_rfl
theorem arJ (B:aE):bP B (locT.getD 18 bO)=true:=by kernel_rfl
theorem arK (B:aE):bP B (locT.getD 19 bO)=true:=by kernel_rfl
end Go.Proofs.YtoeiaflkdcbkdaaGreatDoor
