/- TopShell, part 22 of 36. -/
import Derived.Test.YtoeiaflkdcbkdaaGreatDoorQ0
import Derived.Test.YtoeiaflkdcbkdaaGreatDoorRows
import Derived.ProofKit
import Derived.SevenTiedAt
namespace Go.Proofs.YtoeiaflkdcbkdaaGreatDoor.topShell
open Go Go.Proofs.Tryz
theorem aiI:true=Tryz.pinned.checked.prog.looks []:=by kernel_rfl
theorem aC2:((List.range 100).all fun i=>!((prog.funcs[0+i]?).any Func.goes))=true:=by kernel_rfl
theorem aC3:((List.range 100).all fun i=>!((prog.funcs[100+i]?).any Func.goes))=true:=by kernel_rfl
theorem aC4:((List.range 100).all fun i=>!((prog.funcs[200+i]?).any Func.goes))=true:=by kernel_rfl
theorem aC5:((List.range 100).all fun i=>!((prog.funcs[300+i]?).any Func.goes))=true:=by kernel_rfl
theorem aC6:((List.range 100).all fun i=>!((prog.funcs[400+i]?).any Func.goes))=true:=by kernel_rfl
theorem aC7:((List.range 100).all fun i=>!((prog.funcs[500+i]?).any Func.goes))=true:=by kernel_rfl
end Go.Proofs.YtoeiaflkdcbkdaaGreatDoor.topShell
