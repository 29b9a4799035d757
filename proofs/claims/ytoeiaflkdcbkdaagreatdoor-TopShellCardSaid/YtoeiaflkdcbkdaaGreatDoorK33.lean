/- TopShell, part 33 of 36. -/
import Derived.Test.YtoeiaflkdcbkdaaGreatDoorK23
namespace Go.Proofs.YtoeiaflkdcbkdaaGreatDoor
open Go.RowKit Go.Sym Go.Proofs.Tryz
def ofE (d:Nat):dO:=apA 492 [.int .i64 ((48+d:Nat):Int)] (sB [108,97,116,110]) (.int .i64 d)
def T8 (d:Nat)(s:Int):dO:=⟨354,[.ls 7,.val (jK d)],.val (.int .i64 s)⟩
def rdE (d:Nat)(s:Int):List dO:=[T8 d s,ofE d,FS 393 [.int .i64 ((48+d:Nat):Int)] (.int .i64 0),FS 411 [jK d] (.bool true)]
theorem awU (B:aE):(List.range 5).all (fun d=>cK B mJ 393 [.int .i64 ((48+d:Nat):Int)] (.val (.int .i64 0)))=true:=by kernel_rfl
theorem awV (B:aE):(List.range 5).all (fun d=>cK B mJ 393 [.int .i64 ((53+d:Nat):Int)] (.val (.int .i64 0)))=true:=by kernel_rfl
def T9 (d:Nat):List PC:=[.p (.ls 7),.p (.val (jK d))]
def NB (d:Nat)(r:AV)(m:M):Bool:=match r with
 |.tup [.agg [x,.slc b o n sz c],e]=>fN 0 (.val (.bool false)) x&&(fN 0 (.val (.int .i64 0)) e&&(CV (.rox b 1 1) (.slc b o n sz c)&&dE m b 3 [.p (.val (.int .i64 d))]))
 |_=>false
noncomputable def pX (B:aE)(f:FuncId)(d:Nat)(s:Int)(chk:AV->M->Bool):Bool:=
 match dR B iT (bT (rdE d s)) f (bX (bQ 0 []).2 (T9 d)).1 {H:=tB (bQ 0 []).1,nb:=([]:List IB).length,nc:=(bX (bQ 0 []).2 (T9 d)).2}with
 |some (r,m)=>chk r m
 |none=>false
theorem asA (B:aE):(List.range 10).all (fun d=>pX B 476 d d (NB d))=true:=by kernel_rfl
theorem asB (B:aE):(List.range 10).all (fun d=>pX B 476 d (-1) (NB d))=true:=by kernel_rfl
theorem asC (B:aE):(List.range 10).all (fun d=>pX B 473 d d (QS (.val (.bool false))))=true:=by kernel_rfl
theorem asD (B:aE):(List.range 10).all (fun d=>pX B 473 d (-1) (QS (.val (.bool false))))=true:=by kernel_rfl
end Go.Proofs.YtoeiaflkdcbkdaaGreatDoor
