/- The claim TopSteps, part 9 of 46: ELcC -/
import Derived.Test.YteiomfgehlojeaaGreatDoorK02
import Derived.Test.YteiomfgehlojeaaGreatDoorK03
set_option linter.unusedVariables false
set_option linter.unusedSimpArgs false
namespace Go.Sym
open Go Go.Proofs
def clsF (c k:Int):Ent:={ f:=191,xs:=[i c],r:=.lit (i k) }
section
variable {B:Base} (hA:∀ n,B.A n = Option.none)
include hA
theorem clf32:EntOK B Tryz.prog (clsF 32 0):=ent_of hA (callE_ok noTb_ok noOrc_ok) (by kernel_rfl)
theorem clf35:EntOK B Tryz.prog (clsF 35 0):=ent_of hA (callE_ok noTb_ok noOrc_ok) (by kernel_rfl)
theorem clf36:EntOK B Tryz.prog (clsF 36 0):=ent_of hA (callE_ok noTb_ok noOrc_ok) (by kernel_rfl)
theorem clf37:EntOK B Tryz.prog (clsF 37 0):=ent_of hA (callE_ok noTb_ok noOrc_ok) (by kernel_rfl)
theorem clf39:EntOK B Tryz.prog (clsF 39 0):=ent_of hA (callE_ok noTb_ok noOrc_ok) (by kernel_rfl)
theorem clf40:EntOK B Tryz.prog (clsF 40 0):=ent_of hA (callE_ok noTb_ok noOrc_ok) (by kernel_rfl)
theorem clf41:EntOK B Tryz.prog (clsF 41 0):=ent_of hA (callE_ok noTb_ok noOrc_ok) (by kernel_rfl)
theorem clf44:EntOK B Tryz.prog (clsF 44 0):=ent_of hA (callE_ok noTb_ok noOrc_ok) (by kernel_rfl)
theorem clf45:EntOK B Tryz.prog (clsF 45 0):=ent_of hA (callE_ok noTb_ok noOrc_ok) (by kernel_rfl)
theorem clf46:EntOK B Tryz.prog (clsF 46 0):=ent_of hA (callE_ok noTb_ok noOrc_ok) (by kernel_rfl)
theorem clf66:EntOK B Tryz.prog (clsF 66 0):=ent_of hA (callE_ok noTb_ok noOrc_ok) (by kernel_rfl)
theorem clf67:EntOK B Tryz.prog (clsF 67 0):=ent_of hA (callE_ok noTb_ok noOrc_ok) (by kernel_rfl)
theorem clf69:EntOK B Tryz.prog (clsF 69 0):=ent_of hA (callE_ok noTb_ok noOrc_ok) (by kernel_rfl)
theorem clf70:EntOK B Tryz.prog (clsF 70 0):=ent_of hA (callE_ok noTb_ok noOrc_ok) (by kernel_rfl)
theorem clf71:EntOK B Tryz.prog (clsF 71 0):=ent_of hA (callE_ok noTb_ok noOrc_ok) (by kernel_rfl)
theorem clf72:EntOK B Tryz.prog (clsF 72 0):=ent_of hA (callE_ok noTb_ok noOrc_ok) (by kernel_rfl)
theorem clf75:EntOK B Tryz.prog (clsF 75 0):=ent_of hA (callE_ok noTb_ok noOrc_ok) (by kernel_rfl)
theorem clf78:EntOK B Tryz.prog (clsF 78 0):=ent_of hA (callE_ok noTb_ok noOrc_ok) (by kernel_rfl)
theorem clf80:EntOK B Tryz.prog (clsF 80 0):=ent_of hA (callE_ok noTb_ok noOrc_ok) (by kernel_rfl)
theorem clf82:EntOK B Tryz.prog (clsF 82 0):=ent_of hA (callE_ok noTb_ok noOrc_ok) (by kernel_rfl)
theorem clf95:EntOK B Tryz.prog (clsF 95 0):=ent_of hA (callE_ok noTb_ok noOrc_ok) (by kernel_rfl)
theorem clf101:EntOK B Tryz.prog (clsF 101 0):=ent_of hA (callE_ok noTb_ok noOrc_ok) (by kernel_rfl)
theorem clf107:EntOK B Tryz.prog (clsF 107 0):=ent_of hA (callE_ok noTb_ok noOrc_ok) (by kernel_rfl)
theorem clf112:EntOK B Tryz.prog (clsF 112 0):=ent_of hA (callE_ok noTb_ok noOrc_ok) (by kernel_rfl)
theorem clf114:EntOK B Tryz.prog (clsF 114 0):=ent_of hA (callE_ok noTb_ok noOrc_ok) (by kernel_rfl)
theorem clf116:EntOK B Tryz.prog (clsF 116 0):=ent_of hA (callE_ok noTb_ok noOrc_ok) (by kernel_rfl)
theorem clf117:EntOK B Tryz.prog (clsF 117 0):=ent_of hA (callE_ok noTb_ok noOrc_ok) (by kernel_rfl)
theorem clf120:EntOK B Tryz.prog (clsF 120 0):=ent_of hA (callE_ok noTb_ok noOrc_ok) (by kernel_rfl)
theorem clf121:EntOK B Tryz.prog (clsF 121 0):=ent_of hA (callE_ok noTb_ok noOrc_ok) (by kernel_rfl)
theorem clf122:EntOK B Tryz.prog (clsF 122 0):=ent_of hA (callE_ok noTb_ok noOrc_ok) (by kernel_rfl)
theorem clf160:EntOK B Tryz.prog (clsF 160 0):=ent_of hA (callE_ok noTb_ok noOrc_ok) (by kernel_rfl)
theorem clf163:EntOK B Tryz.prog (clsF 163 0):=ent_of hA (callE_ok noTb_ok noOrc_ok) (by kernel_rfl)
theorem clf165:EntOK B Tryz.prog (clsF 165 0):=ent_of hA (callE_ok noTb_ok noOrc_ok) (by kernel_rfl)
theorem clf269:EntOK B Tryz.prog (clsF 269 0):=ent_of hA (callE_ok noTb_ok noOrc_ok) (by kernel_rfl)
theorem clf322:EntOK B Tryz.prog (clsF 322 0):=ent_of hA (callE_ok noTb_ok noOrc_ok) (by kernel_rfl)
theorem clf769:EntOK B Tryz.prog (clsF 769 4):=ent_of hA (callE_ok noTb_ok noOrc_ok) (by kernel_rfl)
theorem clf1642:EntOK B Tryz.prog (clsF 1642 0):=ent_of hA (callE_ok noTb_ok noOrc_ok) (by kernel_rfl)
theorem clf1643:EntOK B Tryz.prog (clsF 1643 0):=ent_of hA (callE_ok noTb_ok noOrc_ok) (by kernel_rfl)
theorem clf1644:EntOK B Tryz.prog (clsF 1644 0):=ent_of hA (callE_ok noTb_ok noOrc_ok) (by kernel_rfl)
theorem clf2547:EntOK B Tryz.prog (clsF 2547 0):=ent_of hA (callE_ok noTb_ok noOrc_ok) (by kernel_rfl)
theorem clf3647:EntOK B Tryz.prog (clsF 3647 0):=ent_of hA (callE_ok noTb_ok noOrc_ok) (by kernel_rfl)
theorem clf6107:EntOK B Tryz.prog (clsF 6107 0):=ent_of hA (callE_ok noTb_ok noOrc_ok) (by kernel_rfl)
theorem clf8208:EntOK B Tryz.prog (clsF 8208 0):=ent_of hA (callE_ok noTb_ok noOrc_ok) (by kernel_rfl)
theorem clf8217:EntOK B Tryz.prog (clsF 8217 0):=ent_of hA (callE_ok noTb_ok noOrc_ok) (by kernel_rfl)
theorem clf8239:EntOK B Tryz.prog (clsF 8239 0):=ent_of hA (callE_ok noTb_ok noOrc_ok) (by kernel_rfl)
theorem clf8361:EntOK B Tryz.prog (clsF 8361 0):=ent_of hA (callE_ok noTb_ok noOrc_ok) (by kernel_rfl)
theorem clf8362:EntOK B Tryz.prog (clsF 8362 0):=ent_of hA (callE_ok noTb_ok noOrc_ok) (by kernel_rfl)
theorem clf8364:EntOK B Tryz.prog (clsF 8364 0):=ent_of hA (callE_ok noTb_ok noOrc_ok) (by kernel_rfl)
theorem clf8365:EntOK B Tryz.prog (clsF 8365 0):=ent_of hA (callE_ok noTb_ok noOrc_ok) (by kernel_rfl)
theorem clf8377:EntOK B Tryz.prog (clsF 8377 0):=ent_of hA (callE_ok noTb_ok noOrc_ok) (by kernel_rfl)
theorem clf8381:EntOK B Tryz.prog (clsF 8381 0):=ent_of hA (callE_ok noTb_ok noOrc_ok) (by kernel_rfl)
theorem clf8722:EntOK B Tryz.prog (clsF 8722 0):=ent_of hA (callE_ok noTb_ok noOrc_ok) (by kernel_rfl)
theorem clf65509:EntOK B Tryz.prog (clsF 65509 0):=ent_of hA (callE_ok noTb_ok noOrc_ok) (by kernel_rfl)
end
def clsL:List Ent:=[clsF 32 0,clsF 35 0,clsF 36 0,clsF 37 0,clsF 39 0,clsF 40 0,clsF 41 0,clsF 44 0,clsF 45 0,clsF 46 0,clsF 66 0,clsF 67 0,clsF 69 0,clsF 70 0,clsF 71 0,clsF 72 0,clsF 75 0,clsF 78 0,clsF 80 0,clsF 82 0,clsF 95 0,clsF 101 0,clsF 107 0,clsF 112 0,clsF 114 0,clsF 116 0,clsF 117 0,clsF 120 0,clsF 121 0,clsF 122 0,clsF 160 0,clsF 163 0,clsF 165 0,clsF 269 0,clsF 322 0,clsF 769 4,clsF 1642 0,clsF 1643 0,clsF 1644 0,clsF 2547 0,clsF 3647 0,clsF 6107 0,clsF 8208 0,clsF 8217 0,clsF 8239 0,clsF 8361 0,clsF 8362 0,clsF 8364 0,clsF 8365 0,clsF 8377 0,clsF 8381 0,clsF 8722 0,clsF 65509 0]
theorem clsL_ok {B:Base} (hA:∀ n,B.A n = Option.none):∀ E ∈ clsL,EntOK B Tryz.prog E:=by
  unfold clsL
  simp only [List.forall_mem_cons]
  exact ⟨clf32 hA,clf35 hA,clf36 hA,clf37 hA,clf39 hA,clf40 hA,clf41 hA,clf44 hA,clf45 hA,clf46 hA,clf66 hA,clf67 hA,clf69 hA,clf70 hA,clf71 hA,clf72 hA,clf75 hA,clf78 hA,clf80 hA,clf82 hA,clf95 hA,clf101 hA,clf107 hA,clf112 hA,clf114 hA,clf116 hA,clf117 hA,clf120 hA,clf121 hA,clf122 hA,clf160 hA,clf163 hA,clf165 hA,clf269 hA,clf322 hA,clf769 hA,clf1642 hA,clf1643 hA,clf1644 hA,clf2547 hA,clf3647 hA,clf6107 hA,clf8208 hA,clf8217 hA,clf8239 hA,clf8361 hA,clf8362 hA,clf8364 hA,clf8365 hA,clf8377 hA,clf8381 hA,clf8722 hA,clf65509 hA,fun _ hx=>absurd hx List.not_mem_nil⟩
end Go.Sym
