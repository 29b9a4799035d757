/- TopShell, part 11 of 36. -/
import Derived.Test.YtoeiaflkdcbkdaaGreatDoorK08
namespace Go.Proofs.YtoeiaflkdcbkdaaGreatDoor
open Go.RowKit Go.Sym Go.Proofs.Tryz
section
variable {B:aE}{orc:bM}{f:FuncId}{xs:List Value}
def FS (f:FuncId)(xs:List Value)(r:Value):dO:=⟨f,xs.map .val,.val r⟩
def apA (f:FuncId)(xs:List Value)(a b:Value):dO:=⟨f,xs.map .val,.tup [.val a,.val b]⟩
theorem MS:∀l:List Value,eW 0 (l.map .val)=(l.map .lit,0)
 |[]=>rfl
 |x::l=>by simp only[aFB,eW,SS,MS l]
theorem uC:∀l:List Value,lJ B (l.map .val)
 |[]=>trivial
 |_::l=>⟨trivial,uC l⟩
noncomputable def cK (B:aE)(orc:bM)(f:FuncId)(xs:List Value)(r:eG):Bool:=match dR B iT orc f (xs.map .lit) {}with
 |some (x,_)=>fN 0 r x
 |none=>false
theorem fS:kY prog B iT:=bD aH aH aH aH
theorem zA (ha:∀i x,B.A i=some x->i%2≠1)(ho:cH B prog orc){r:Value}(h:cK B orc f xs (.val r)=true):aK B prog (FS f xs r):=
 sD ha (bY fS ho) (MS xs) (uC xs) trivial h
theorem apB (ha:∀i x,B.A i=some x->i%2≠1)(ho:cH B prog orc){a b:Value}(h:cK B orc f xs (.tup [.val a,.val b])=true):aK B prog (apA f xs a b):=
 sD ha (bY fS ho) (MS xs) (uC xs) ⟨trivial,trivial,trivial⟩ h
def mJ:bM:=bT []
theorem qH:cH B prog mJ:=bB aH
theorem uS (h:DC B){a:List UInt8}(hn:Lib.validD a=true)(hs:a.length<=1000000):aK B prog (FS 411 [sB a] (.bool true)):=by
 refine⟨uC [sB a],fun w hu xs ha=>?_⟩;obtain⟨y0,_,rfl,a0,rfl⟩:=ha;rw[show y0=_ from a0];refine(Any.utf8_ValidString Tryz.laysValid ⟨a.toArray⟩ w (by simp[ByteArray.size];omega) (h.wd hu).tabs).mono ?_;rintro e w' ⟨rfl,hb⟩;refine⟨_,rfl,?_,hb⟩;show Value.bool _=.bool true;rw[<-hn]
def apC:List Int:=[36,37,44,45,46,66,67,69,70,71,72,75,78,80,82,107,112,114,116,117,122,160,163,165,269,322,1642,1643,1644,2547,3647,6107,8217,8239,8361,8362,8364,8365,8377,8381,8722,65509]
theorem avA (B:aE):cK B mJ 393 [.int .i64 36] (.val (.int .i64 0))=true:=by kernel_rfl
theorem avB (B:aE):cK B mJ 393 [.int .i64 37] (.val (.int .i64 0))=true:=by kernel_rfl
theorem avC (B:aE):cK B mJ 393 [.int .i64 44] (.val (.int .i64 0))=true:=by kernel_rfl
theorem avD (B:aE):cK B mJ 393 [.int .i64 45] (.val (.int .i64 0))=true:=by kernel_rfl
theorem avE (B:aE):cK B mJ 393 [.int .i64 46] (.val (.int .i64 0))=true:=by kernel_rfl
theorem avF (B:aE):cK B mJ 393 [.int .i64 66] (.val (.int .i64 0))=true:=by kernel_rfl
theorem avG (B:aE):cK B mJ 393 [.int .i64 67] (.val (.int .i64 0))=true:=by kernel_rfl
theorem avH (B:aE):cK B mJ 393 [.int .i64 69] (.val (.int .i64 0))=true:=by kernel_rfl
theorem avI (B:aE):cK B mJ 393 [.int .i64 70] (.val (.int .i64 0))=true:=by kernel_rfl
theorem avJ (B:aE):cK B mJ 393 [.int .i64 71] (.val (.int .i64 0))=true:=by kernel_rfl
theorem avK (B:aE):cK B mJ 393 [.int .i64 72] (.val (.int .i64 0))=true:=by kernel_rfl
theorem avL (B:aE):cK B mJ 393 [.int .i64 75] (.val (.int .i64 0))=true:=by kernel_rfl
theorem avM (B:aE):cK B mJ 393 [.int .i64 78] (.val (.int .i64 0))=true:=by kernel_rfl
theorem avN (B:aE):cK B mJ 393 [.int .i64 80] (.val (.int .i64 0))=true:=by kernel_rfl
theorem avO (B:aE):cK B mJ 393 [.int .i64 82] (.val (.int .i64 0))=true:=by kernel_rfl
theorem apD (B:aE):cK B mJ 393 [.int .i64 107] (.val (.int .i64 0))=true:=by kernel_rfl
theorem apE (B:aE):cK B mJ 393 [.int .i64 112] (.val (.int .i64 0))=true:=by kernel_rfl
theorem apF (B:aE):cK B mJ 393 [.int .i64 114] (.val (.int .i64 0))=true:=by kernel_rfl
theorem apG (B:aE):cK B mJ 393 [.int .i64 116] (.val (.int .i64 0))=true:=by kernel_rfl
theorem apH (B:aE):cK B mJ 393 [.int .i64 117] (.val (.int .i64 0))=true:=by kernel_rfl
theorem apI (B:aE):cK B mJ 393 [.int .i64 122] (.val (.int .i64 0))=true:=by kernel_rfl
theorem apJ (B:aE):cK B mJ 393 [.int .i64 160] (.val (.int .i64 0))=true:=by kernel_rfl
theorem apK (B:aE):cK B mJ 393 [.int .i64 163] (.val (.int .i64 0))=true:=by kernel_rfl
theorem apL (B:aE):cK B mJ 393 [.int .i64 165] (.val (.int .i64 0))=true:=by kernel_rfl
theorem apM (B:aE):cK B mJ 393 [.int .i64 269] (.val (.int .i64 0))=true:=by kernel_rfl
theorem apN (B:aE):cK B mJ 393 [.int .i64 322] (.val (.int .i64 0))=true:=by kernel_rfl
theorem ajX (B:aE):cK B mJ 393 [.int .i64 1642] (.val (.int .i64 0))=true:=by kernel_rfl
theorem ajY (B:aE):cK B mJ 393 [.int .i64 1643] (.val (.int .i64 0))=true:=by kernel_rfl
theorem ajZ (B:aE):cK B mJ 393 [.int .i64 1644] (.val (.int .i64 0))=true:=by kernel_rfl
theorem aj0 (B:aE):cK B mJ 393 [.int .i64 2547] (.val (.int .i64 0))=true:=by kernel_rfl
theorem aj1 (B:aE):cK B mJ 393 [.int .i64 3647] (.val (.int .i64 0))=true:=by kernel_rfl
theorem aj2 (B:aE):cK B mJ 393 [.int .i64 6107] (.val (.int .i64 0))=true:=by kernel_rfl
theorem aj3 (B:aE):cK B mJ 393 [.int .i64 8217] (.val (.int .i64 0))=true:=by kernel_rfl
theorem aj4 (B:aE):cK B mJ 393 [.int .i64 8239] (.val (.int .i64 0))=true:=by kernel_rfl
theorem aj5 (B:aE):cK B mJ 393 [.int .i64 8361] (.val (.int .i64 0))=true:=by kernel_rfl
theorem aj6 (B:aE):cK B mJ 393 [.int .i64 8362] (.val (.int .i64 0))=true:=by kernel_rfl
theorem aj7 (B:aE):cK B mJ 393 [.int .i64 8364] (.val (.int .i64 0))=true:=by kernel_rfl
theorem aj8 (B:aE):cK B mJ 393 [.int .i64 8365] (.val (.int .i64 0))=true:=by kernel_rfl
theorem aj9 (B:aE):cK B mJ 393 [.int .i64 8377] (.val (.int .i64 0))=true:=by kernel_rfl
theorem akA (B:aE):cK B mJ 393 [.int .i64 8381] (.val (.int .i64 0))=true:=by kernel_rfl
theorem akB (B:aE):cK B mJ 393 [.int .i64 8722] (.val (.int .i64 0))=true:=by kernel_rfl
theorem ad5 (B:aE):cK B mJ 393 [.int .i64 65509] (.val (.int .i64 0))=true:=by kernel_rfl
theorem akC (B:aE):∀c∈apC,cK B mJ 393 [.int .i64 c] (.val (.int .i64 0))=true:=by
 unfold apC;simp only[List.forall_mem_cons];exact⟨avA B,avB B,avC B,avD B,avE B,avF B,avG B,avH B,avI B,avJ B,avK B,avL B,avM B,avN B,avO B,apD B,apE B,apF B,apG B,apH B,apI B,apJ B,apK B,apL B,apM B,apN B,ajX B,ajY B,ajZ B,aj0 B,aj1 B,aj2 B,aj3 B,aj4 B,aj5 B,aj6 B,aj7 B,aj8 B,aj9 B,akA B,akB B,ad5 B,fun _ hx=>absurd hx aFF⟩
end
end Go.Proofs.YtoeiaflkdcbkdaaGreatDoor
