/- TopShell, part 17 of 36. -/
import Derived.Test.YtoeiaflkdcbkdaaGreatDoorK08
namespace Go.Proofs.YtoeiaflkdcbkdaaGreatDoor
open Go.RowKit Go.Sym Go.Proofs.Tryz
theorem aCD (B:aE):cT oA (PT B true)=true:=by kernel_rfl
theorem aCE (B:aE):cT oB (PT B true)=true:=by kernel_rfl
theorem aCF (B:aE):cT oC (PT B true)=true:=by kernel_rfl
theorem aCG (B:aE):pW (PT B false)=true:=by kernel_rfl
theorem azD (B:aE):V7 B true=true:=by kernel_rfl
theorem azE (B:aE):V7 B false=true:=by kernel_rfl
theorem aCH (B:aE):ao8 B=true:=by kernel_rfl
theorem aCI (B:aE):cT oA (ZR B)=true:=by kernel_rfl
theorem aCJ (B:aE):cT oB (ZR B)=true:=by kernel_rfl
theorem aCK (B:aE):cT oC (ZR B)=true:=by kernel_rfl
theorem aCL (B:aE):([0,1].all fun n=>uA.all fun na=>!Nat.ble (n+1+na.getD 0) 5 || TQ B n na)=true:=by kernel_rfl
theorem aCM (B:aE):([2,3,4].all fun n=>uA.all fun na=>!Nat.ble (n+1+na.getD 0) 5 || TQ B n na)=true:=by kernel_rfl
theorem aCN (B:aE):(uA.all fun na=>PU B none na&&PU B (some 0) na)=true:=by kernel_rfl
end Go.Proofs.YtoeiaflkdcbkdaaGreatDoor
