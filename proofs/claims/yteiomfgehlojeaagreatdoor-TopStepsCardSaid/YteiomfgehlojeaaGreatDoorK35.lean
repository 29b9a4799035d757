/- The claim TopSteps, part 35 of 46: ELcS, ELoc, ELcN, ELcF, ELwA, Ty, Wi -/
import Derived.Test.YteiomfgehlojeaaGreatDoorK03
import Derived.Test.YteiomfgehlojeaaGreatDoorK09
import Derived.Test.YteiomfgehlojeaaGreatDoorK04
import Derived.Test.YteiomfgehlojeaaGreatDoorK08
import Derived.Test.YteiomfgehlojeaaGreatDoorK10
import Derived.Test.YteiomfgehlojeaaGreatDoorK11
import Derived.Test.YteiomfgehlojeaaGreatDoorK12
import Derived.Test.YteiomfgehlojeaaGreatDoorK13
import Derived.Test.YteiomfgehlojeaaGreatDoorK14
import Derived.Test.YteiomfgehlojeaaGreatDoorK15
import Derived.Test.YteiomfgehlojeaaGreatDoorK16
import Derived.Test.YteiomfgehlojeaaGreatDoorK17
import Derived.Test.YteiomfgehlojeaaGreatDoorK18
import Derived.Test.YteiomfgehlojeaaGreatDoorK19
import Derived.Test.YteiomfgehlojeaaGreatDoorK20
import Derived.Test.YteiomfgehlojeaaGreatDoorK21
import Derived.Test.YteiomfgehlojeaaGreatDoorK22
import Derived.Test.YteiomfgehlojeaaGreatDoorK23
import Derived.Test.YteiomfgehlojeaaGreatDoorK24
import Derived.Test.YteiomfgehlojeaaGreatDoorK25
import Derived.Test.YteiomfgehlojeaaGreatDoorK26
import Derived.Test.YteiomfgehlojeaaGreatDoorK27
set_option linter.unusedVariables false
set_option linter.unusedSimpArgs false
section
namespace Go.Sym
open Go Go.Proofs
def valF (l:List UInt8):Ent:={ f:=228,xs:=[sB l],r:=.lit (.bool true) }
def valL:List Ent:=[valF [],valF [36],valF [37],valF [66,71,78],valF [67,72,70],valF [69,71,80],valF [70,116],valF [75],valF [75,196,141],valF [78,117],valF [82,36],valF [82,112],valF [107,114],valF [107,204,129,114],valF [122,197,130],valF [194,163],valF [194,165],valF [217,170],valF [224,167,179],valF [224,184,191],valF [225,159,155],valF [226,130,169],valF [226,130,170],valF [226,130,172],valF [226,130,173],valF [226,130,185],valF [226,130,189],valF [239,191,165],valF [32],valF [39],valF [44],valF [45],valF [45,204,129],valF [46],valF [95],valF [101,204,129],valF [194,160],valF [217,171],valF [217,172],valF [226,128,144],valF [226,128,153],valF [226,128,175],valF [226,136,146]]
theorem valL_ok {B:Base} (h:Ground B):∀ E ∈ valL,EntOK B Tryz.prog E:=by
  unfold valL
  simp only [List.forall_mem_cons]
  exact ⟨val_ok h (by kernel_rfl) (by kernel_rfl),val_ok h (by kernel_rfl) (by kernel_rfl),val_ok h (by kernel_rfl) (by kernel_rfl),val_ok h (by kernel_rfl) (by kernel_rfl),val_ok h (by kernel_rfl) (by kernel_rfl),val_ok h (by kernel_rfl) (by kernel_rfl),val_ok h (by kernel_rfl) (by kernel_rfl),val_ok h (by kernel_rfl) (by kernel_rfl),val_ok h (by kernel_rfl) (by kernel_rfl),val_ok h (by kernel_rfl) (by kernel_rfl),val_ok h (by kernel_rfl) (by kernel_rfl),val_ok h (by kernel_rfl) (by kernel_rfl),val_ok h (by kernel_rfl) (by kernel_rfl),val_ok h (by kernel_rfl) (by kernel_rfl),val_ok h (by kernel_rfl) (by kernel_rfl),val_ok h (by kernel_rfl) (by kernel_rfl),val_ok h (by kernel_rfl) (by kernel_rfl),val_ok h (by kernel_rfl) (by kernel_rfl),val_ok h (by kernel_rfl) (by kernel_rfl),val_ok h (by kernel_rfl) (by kernel_rfl),val_ok h (by kernel_rfl) (by kernel_rfl),val_ok h (by kernel_rfl) (by kernel_rfl),val_ok h (by kernel_rfl) (by kernel_rfl),val_ok h (by kernel_rfl) (by kernel_rfl),val_ok h (by kernel_rfl) (by kernel_rfl),val_ok h (by kernel_rfl) (by kernel_rfl),val_ok h (by kernel_rfl) (by kernel_rfl),val_ok h (by kernel_rfl) (by kernel_rfl),val_ok h (by kernel_rfl) (by kernel_rfl),val_ok h (by kernel_rfl) (by kernel_rfl),val_ok h (by kernel_rfl) (by kernel_rfl),val_ok h (by kernel_rfl) (by kernel_rfl),val_ok h (by kernel_rfl) (by kernel_rfl),val_ok h (by kernel_rfl) (by kernel_rfl),val_ok h (by kernel_rfl) (by kernel_rfl),val_ok h (by kernel_rfl) (by kernel_rfl),val_ok h (by kernel_rfl) (by kernel_rfl),val_ok h (by kernel_rfl) (by kernel_rfl),val_ok h (by kernel_rfl) (by kernel_rfl),val_ok h (by kernel_rfl) (by kernel_rfl),val_ok h (by kernel_rfl) (by kernel_rfl),val_ok h (by kernel_rfl) (by kernel_rfl),val_ok h (by kernel_rfl) (by kernel_rfl),fun _ hx=>absurd hx List.not_mem_nil⟩
def orcV:CallT:=entsA (valL ++ clsL)
theorem orcV_ok {B:Base} (h:Ground B) (hA:∀ n,B.A n = Option.none):CallOK B Tryz.prog orcV:=ents_ok fun E hE=>by
  rcases List.mem_append.1 hE with hE | hE
  · exact valL_ok h E hE
  · exact clsL_ok hA E hE
def symF (l:List UInt8):Ent:={ f:=124,xs:=[sB l],r:=.lit (.bool true) }
def wrdF (l:List UInt8):Ent:={ f:=113,xs:=[sB l],r:=.lit (.bool true) }
def namF (l:List UInt8):Ent:={ f:=59,xs:=[sB l],r:=.lit (.bool true) }
section
variable {B:Base} (h:Ground B) (hA:∀ n,B.A n = Option.none)
include h hA
theorem sym0:EntOK B Tryz.prog (symF [32]):=ent_of hA (callE_ok noTb_ok (orcV_ok h hA)) (by kernel_rfl)
theorem sym1:EntOK B Tryz.prog (symF [39]):=ent_of hA (callE_ok noTb_ok (orcV_ok h hA)) (by kernel_rfl)
theorem sym2:EntOK B Tryz.prog (symF [44]):=ent_of hA (callE_ok noTb_ok (orcV_ok h hA)) (by kernel_rfl)
theorem sym3:EntOK B Tryz.prog (symF [45]):=ent_of hA (callE_ok noTb_ok (orcV_ok h hA)) (by kernel_rfl)
theorem sym4:EntOK B Tryz.prog (symF [45,204,129]):=ent_of hA (callE_ok noTb_ok (orcV_ok h hA)) (by kernel_rfl)
theorem sym5:EntOK B Tryz.prog (symF [46]):=ent_of hA (callE_ok noTb_ok (orcV_ok h hA)) (by kernel_rfl)
theorem sym6:EntOK B Tryz.prog (symF [95]):=ent_of hA (callE_ok noTb_ok (orcV_ok h hA)) (by kernel_rfl)
theorem sym7:EntOK B Tryz.prog (symF [101,204,129]):=ent_of hA (callE_ok noTb_ok (orcV_ok h hA)) (by kernel_rfl)
theorem sym8:EntOK B Tryz.prog (symF [194,160]):=ent_of hA (callE_ok noTb_ok (orcV_ok h hA)) (by kernel_rfl)
theorem sym9:EntOK B Tryz.prog (symF [217,171]):=ent_of hA (callE_ok noTb_ok (orcV_ok h hA)) (by kernel_rfl)
theorem sym10:EntOK B Tryz.prog (symF [217,172]):=ent_of hA (callE_ok noTb_ok (orcV_ok h hA)) (by kernel_rfl)
theorem sym11:EntOK B Tryz.prog (symF [226,128,144]):=ent_of hA (callE_ok noTb_ok (orcV_ok h hA)) (by kernel_rfl)
theorem sym12:EntOK B Tryz.prog (symF [226,128,153]):=ent_of hA (callE_ok noTb_ok (orcV_ok h hA)) (by kernel_rfl)
theorem sym13:EntOK B Tryz.prog (symF [226,128,175]):=ent_of hA (callE_ok noTb_ok (orcV_ok h hA)) (by kernel_rfl)
theorem sym14:EntOK B Tryz.prog (symF [226,136,146]):=ent_of hA (callE_ok noTb_ok (orcV_ok h hA)) (by kernel_rfl)
theorem wrd0:EntOK B Tryz.prog (wrdF [36]):=ent_of hA (callE_ok noTb_ok (orcV_ok h hA)) (by kernel_rfl)
theorem wrd1:EntOK B Tryz.prog (wrdF [37]):=ent_of hA (callE_ok noTb_ok (orcV_ok h hA)) (by kernel_rfl)
theorem wrd2:EntOK B Tryz.prog (wrdF [66,71,78]):=ent_of hA (callE_ok noTb_ok (orcV_ok h hA)) (by kernel_rfl)
theorem wrd3:EntOK B Tryz.prog (wrdF [67,72,70]):=ent_of hA (callE_ok noTb_ok (orcV_ok h hA)) (by kernel_rfl)
theorem wrd4:EntOK B Tryz.prog (wrdF [69,71,80]):=ent_of hA (callE_ok noTb_ok (orcV_ok h hA)) (by kernel_rfl)
theorem wrd5:EntOK B Tryz.prog (wrdF [70,116]):=ent_of hA (callE_ok noTb_ok (orcV_ok h hA)) (by kernel_rfl)
theorem wrd6:EntOK B Tryz.prog (wrdF [75]):=ent_of hA (callE_ok noTb_ok (orcV_ok h hA)) (by kernel_rfl)
theorem wrd7:EntOK B Tryz.prog (wrdF [75,196,141]):=ent_of hA (callE_ok noTb_ok (orcV_ok h hA)) (by kernel_rfl)
theorem wrd8:EntOK B Tryz.prog (wrdF [78,117]):=ent_of hA (callE_ok noTb_ok (orcV_ok h hA)) (by kernel_rfl)
theorem wrd9:EntOK B Tryz.prog (wrdF [82,36]):=ent_of hA (callE_ok noTb_ok (orcV_ok h hA)) (by kernel_rfl)
theorem wrd10:EntOK B Tryz.prog (wrdF [82,112]):=ent_of hA (callE_ok noTb_ok (orcV_ok h hA)) (by kernel_rfl)
theorem wrd11:EntOK B Tryz.prog (wrdF [107,114]):=ent_of hA (callE_ok noTb_ok (orcV_ok h hA)) (by kernel_rfl)
theorem wrd12:EntOK B Tryz.prog (wrdF [107,204,129,114]):=ent_of hA (callE_ok noTb_ok (orcV_ok h hA)) (by kernel_rfl)
theorem wrd13:EntOK B Tryz.prog (wrdF [122,197,130]):=ent_of hA (callE_ok noTb_ok (orcV_ok h hA)) (by kernel_rfl)
theorem wrd14:EntOK B Tryz.prog (wrdF [194,163]):=ent_of hA (callE_ok noTb_ok (orcV_ok h hA)) (by kernel_rfl)
theorem wrd15:EntOK B Tryz.prog (wrdF [194,165]):=ent_of hA (callE_ok noTb_ok (orcV_ok h hA)) (by kernel_rfl)
theorem wrd16:EntOK B Tryz.prog (wrdF [217,170]):=ent_of hA (callE_ok noTb_ok (orcV_ok h hA)) (by kernel_rfl)
theorem wrd17:EntOK B Tryz.prog (wrdF [224,167,179]):=ent_of hA (callE_ok noTb_ok (orcV_ok h hA)) (by kernel_rfl)
theorem wrd18:EntOK B Tryz.prog (wrdF [224,184,191]):=ent_of hA (callE_ok noTb_ok (orcV_ok h hA)) (by kernel_rfl)
theorem wrd19:EntOK B Tryz.prog (wrdF [225,159,155]):=ent_of hA (callE_ok noTb_ok (orcV_ok h hA)) (by kernel_rfl)
theorem wrd20:EntOK B Tryz.prog (wrdF [226,130,169]):=ent_of hA (callE_ok noTb_ok (orcV_ok h hA)) (by kernel_rfl)
theorem wrd21:EntOK B Tryz.prog (wrdF [226,130,170]):=ent_of hA (callE_ok noTb_ok (orcV_ok h hA)) (by kernel_rfl)
theorem wrd22:EntOK B Tryz.prog (wrdF [226,130,172]):=ent_of hA (callE_ok noTb_ok (orcV_ok h hA)) (by kernel_rfl)
theorem wrd23:EntOK B Tryz.prog (wrdF [226,130,173]):=ent_of hA (callE_ok noTb_ok (orcV_ok h hA)) (by kernel_rfl)
theorem wrd24:EntOK B Tryz.prog (wrdF [226,130,185]):=ent_of hA (callE_ok noTb_ok (orcV_ok h hA)) (by kernel_rfl)
theorem wrd25:EntOK B Tryz.prog (wrdF [226,130,189]):=ent_of hA (callE_ok noTb_ok (orcV_ok h hA)) (by kernel_rfl)
theorem wrd26:EntOK B Tryz.prog (wrdF [239,191,165]):=ent_of hA (callE_ok noTb_ok (orcV_ok h hA)) (by kernel_rfl)
theorem wrdN:EntOK B Tryz.prog { f:=113,xs:=[sB []],r:=.lit (.bool false) }:=ent_of hA (callE_ok noTb_ok (orcV_ok h hA)) (by kernel_rfl)
theorem nam0:EntOK B Tryz.prog (namF [120,120]):=ent_of hA (callE_ok noTb_ok (orcV_ok h hA)) (by kernel_rfl)
theorem nam1:EntOK B Tryz.prog (namF [97,114,45,69,71]):=ent_of hA (callE_ok noTb_ok (orcV_ok h hA)) (by kernel_rfl)
theorem nam2:EntOK B Tryz.prog (namF [98,103,45,66,71]):=ent_of hA (callE_ok noTb_ok (orcV_ok h hA)) (by kernel_rfl)
theorem nam3:EntOK B Tryz.prog (namF [98,110,45,66,68]):=ent_of hA (callE_ok noTb_ok (orcV_ok h hA)) (by kernel_rfl)
theorem nam4:EntOK B Tryz.prog (namF [99,115,45,67,90]):=ent_of hA (callE_ok noTb_ok (orcV_ok h hA)) (by kernel_rfl)
theorem nam5:EntOK B Tryz.prog (namF [100,97,45,68,75]):=ent_of hA (callE_ok noTb_ok (orcV_ok h hA)) (by kernel_rfl)
theorem nam6:EntOK B Tryz.prog (namF [100,101,45,65,84]):=ent_of hA (callE_ok noTb_ok (orcV_ok h hA)) (by kernel_rfl)
theorem nam7:EntOK B Tryz.prog (namF [100,101,45,67,72]):=ent_of hA (callE_ok noTb_ok (orcV_ok h hA)) (by kernel_rfl)
theorem nam8:EntOK B Tryz.prog (namF [100,101,45,68,69]):=ent_of hA (callE_ok noTb_ok (orcV_ok h hA)) (by kernel_rfl)
theorem nam9:EntOK B Tryz.prog (namF [100,122,45,66,84]):=ent_of hA (callE_ok noTb_ok (orcV_ok h hA)) (by kernel_rfl)
theorem nam10:EntOK B Tryz.prog (namF [101,108,45,71,82]):=ent_of hA (callE_ok noTb_ok (orcV_ok h hA)) (by kernel_rfl)
theorem nam11:EntOK B Tryz.prog (namF [101,110,45,71,66]):=ent_of hA (callE_ok noTb_ok (orcV_ok h hA)) (by kernel_rfl)
theorem nam12:EntOK B Tryz.prog (namF [101,110,45,73,78]):=ent_of hA (callE_ok noTb_ok (orcV_ok h hA)) (by kernel_rfl)
theorem nam13:EntOK B Tryz.prog (namF [101,110,45,85,83]):=ent_of hA (callE_ok noTb_ok (orcV_ok h hA)) (by kernel_rfl)
theorem nam14:EntOK B Tryz.prog (namF [101,115,45,69,83]):=ent_of hA (callE_ok noTb_ok (orcV_ok h hA)) (by kernel_rfl)
theorem nam15:EntOK B Tryz.prog (namF [101,116,45,69,69]):=ent_of hA (callE_ok noTb_ok (orcV_ok h hA)) (by kernel_rfl)
theorem nam16:EntOK B Tryz.prog (namF [102,97,45,73,82]):=ent_of hA (callE_ok noTb_ok (orcV_ok h hA)) (by kernel_rfl)
theorem nam17:EntOK B Tryz.prog (namF [102,105,45,70,73]):=ent_of hA (callE_ok noTb_ok (orcV_ok h hA)) (by kernel_rfl)
theorem nam18:EntOK B Tryz.prog (namF [102,114,45,67,65]):=ent_of hA (callE_ok noTb_ok (orcV_ok h hA)) (by kernel_rfl)
theorem nam19:EntOK B Tryz.prog (namF [102,114,45,70,82]):=ent_of hA (callE_ok noTb_ok (orcV_ok h hA)) (by kernel_rfl)
theorem nam20:EntOK B Tryz.prog (namF [103,117,45,73,78]):=ent_of hA (callE_ok noTb_ok (orcV_ok h hA)) (by kernel_rfl)
theorem nam21:EntOK B Tryz.prog (namF [104,101,45,73,76]):=ent_of hA (callE_ok noTb_ok (orcV_ok h hA)) (by kernel_rfl)
theorem nam22:EntOK B Tryz.prog (namF [104,105,45,73,78]):=ent_of hA (callE_ok noTb_ok (orcV_ok h hA)) (by kernel_rfl)
theorem nam23:EntOK B Tryz.prog (namF [104,117,45,72,85]):=ent_of hA (callE_ok noTb_ok (orcV_ok h hA)) (by kernel_rfl)
theorem nam24:EntOK B Tryz.prog (namF [105,100,45,73,68]):=ent_of hA (callE_ok noTb_ok (orcV_ok h hA)) (by kernel_rfl)
theorem nam25:EntOK B Tryz.prog (namF [106,97,45,74,80]):=ent_of hA (callE_ok noTb_ok (orcV_ok h hA)) (by kernel_rfl)
theorem nam26:EntOK B Tryz.prog (namF [107,109,45,75,72]):=ent_of hA (callE_ok noTb_ok (orcV_ok h hA)) (by kernel_rfl)
theorem nam27:EntOK B Tryz.prog (namF [107,110,45,73,78]):=ent_of hA (callE_ok noTb_ok (orcV_ok h hA)) (by kernel_rfl)
theorem nam28:EntOK B Tryz.prog (namF [107,111,45,75,82]):=ent_of hA (callE_ok noTb_ok (orcV_ok h hA)) (by kernel_rfl)
theorem nam29:EntOK B Tryz.prog (namF [108,111,45,76,65]):=ent_of hA (callE_ok noTb_ok (orcV_ok h hA)) (by kernel_rfl)
theorem nam30:EntOK B Tryz.prog (namF [109,114,45,73,78]):=ent_of hA (callE_ok noTb_ok (orcV_ok h hA)) (by kernel_rfl)
theorem nam31:EntOK B Tryz.prog (namF [109,121,45,77,77]):=ent_of hA (callE_ok noTb_ok (orcV_ok h hA)) (by kernel_rfl)
theorem nam32:EntOK B Tryz.prog (namF [110,98,45,78,79]):=ent_of hA (callE_ok noTb_ok (orcV_ok h hA)) (by kernel_rfl)
theorem nam33:EntOK B Tryz.prog (namF [110,108,45,78,76]):=ent_of hA (callE_ok noTb_ok (orcV_ok h hA)) (by kernel_rfl)
theorem nam34:EntOK B Tryz.prog (namF [112,108,45,80,76]):=ent_of hA (callE_ok noTb_ok (orcV_ok h hA)) (by kernel_rfl)
theorem nam35:EntOK B Tryz.prog (namF [112,116,45,66,82]):=ent_of hA (callE_ok noTb_ok (orcV_ok h hA)) (by kernel_rfl)
theorem nam36:EntOK B Tryz.prog (namF [114,117,45,82,85]):=ent_of hA (callE_ok noTb_ok (orcV_ok h hA)) (by kernel_rfl)
theorem nam37:EntOK B Tryz.prog (namF [115,108,45,83,73]):=ent_of hA (callE_ok noTb_ok (orcV_ok h hA)) (by kernel_rfl)
theorem nam38:EntOK B Tryz.prog (namF [116,97,45,73,78]):=ent_of hA (callE_ok noTb_ok (orcV_ok h hA)) (by kernel_rfl)
theorem nam39:EntOK B Tryz.prog (namF [116,104,45,84,72]):=ent_of hA (callE_ok noTb_ok (orcV_ok h hA)) (by kernel_rfl)
theorem nam40:EntOK B Tryz.prog (namF [122,104,45,67,78]):=ent_of hA (callE_ok noTb_ok (orcV_ok h hA)) (by kernel_rfl)
end
def symsT:List (List UInt8):=[[32],[39],[44],[45],[45,204,129],[46],[95],[101,204,129],[194,160],[217,171],[217,172],[226,128,144],[226,128,153],[226,128,175],[226,136,146]]
def wrdsT:List (List UInt8):=[[36],[37],[66,71,78],[67,72,70],[69,71,80],[70,116],[75],[75,196,141],[78,117],[82,36],[82,112],[107,114],[107,204,129,114],[122,197,130],[194,163],[194,165],[217,170],[224,167,179],[224,184,191],[225,159,155],[226,130,169],[226,130,170],[226,130,172],[226,130,173],[226,130,185],[226,130,189],[239,191,165]]
def namsT:List (List UInt8):=[[120,120],[97,114,45,69,71],[98,103,45,66,71],[98,110,45,66,68],[99,115,45,67,90],[100,97,45,68,75],[100,101,45,65,84],[100,101,45,67,72],[100,101,45,68,69],[100,122,45,66,84],[101,108,45,71,82],[101,110,45,71,66],[101,110,45,73,78],[101,110,45,85,83],[101,115,45,69,83],[101,116,45,69,69],[102,97,45,73,82],[102,105,45,70,73],[102,114,45,67,65],[102,114,45,70,82],[103,117,45,73,78],[104,101,45,73,76],[104,105,45,73,78],[104,117,45,72,85],[105,100,45,73,68],[106,97,45,74,80],[107,109,45,75,72],[107,110,45,73,78],[107,111,45,75,82],[108,111,45,76,65],[109,114,45,73,78],[109,121,45,77,77],[110,98,45,78,79],[110,108,45,78,76],[112,108,45,80,76],[112,116,45,66,82],[114,117,45,82,85],[115,108,45,83,73],[116,97,45,73,78],[116,104,45,84,72],[122,104,45,67,78]]
theorem sym_all {B:Base} (h:Ground B) (hA:∀ n,B.A n = Option.none):∀ l ∈ symsT,EntOK B Tryz.prog (symF l):=by
  unfold symsT
  simp only [List.forall_mem_cons]
  exact ⟨sym0 h hA,sym1 h hA,sym2 h hA,sym3 h hA,sym4 h hA,sym5 h hA,sym6 h hA,sym7 h hA,sym8 h hA,sym9 h hA,sym10 h hA,sym11 h hA,sym12 h hA,sym13 h hA,sym14 h hA,fun _ hx=>absurd hx List.not_mem_nil⟩
theorem wrd_all {B:Base} (h:Ground B) (hA:∀ n,B.A n = Option.none):∀ l ∈ wrdsT,EntOK B Tryz.prog (wrdF l):=by
  unfold wrdsT
  simp only [List.forall_mem_cons]
  exact ⟨wrd0 h hA,wrd1 h hA,wrd2 h hA,wrd3 h hA,wrd4 h hA,wrd5 h hA,wrd6 h hA,wrd7 h hA,wrd8 h hA,wrd9 h hA,wrd10 h hA,wrd11 h hA,wrd12 h hA,wrd13 h hA,wrd14 h hA,wrd15 h hA,wrd16 h hA,wrd17 h hA,wrd18 h hA,wrd19 h hA,wrd20 h hA,wrd21 h hA,wrd22 h hA,wrd23 h hA,wrd24 h hA,wrd25 h hA,wrd26 h hA,fun _ hx=>absurd hx List.not_mem_nil⟩
theorem nam_all {B:Base} (h:Ground B) (hA:∀ n,B.A n = Option.none):∀ l ∈ namsT,EntOK B Tryz.prog (namF l):=by
  unfold namsT
  simp only [List.forall_mem_cons]
  exact ⟨nam0 h hA,nam1 h hA,nam2 h hA,nam3 h hA,nam4 h hA,nam5 h hA,nam6 h hA,nam7 h hA,nam8 h hA,nam9 h hA,nam10 h hA,nam11 h hA,nam12 h hA,nam13 h hA,nam14 h hA,nam15 h hA,nam16 h hA,nam17 h hA,nam18 h hA,nam19 h hA,nam20 h hA,nam21 h hA,nam22 h hA,nam23 h hA,nam24 h hA,nam25 h hA,nam26 h hA,nam27 h hA,nam28 h hA,nam29 h hA,nam30 h hA,nam31 h hA,nam32 h hA,nam33 h hA,nam34 h hA,nam35 h hA,nam36 h hA,nam37 h hA,nam38 h hA,nam39 h hA,nam40 h hA,fun _ hx=>absurd hx List.not_mem_nil⟩
end Go.Sym
end
section
namespace Go.Sym
open Go Go.Proofs Go.RowKit
def idxL:List Ent:=[{ f:=156,xs:=[.string ⟨([35]:List UInt8).toArray⟩, .string ⟨([46]:List UInt8).toArray⟩],r:=.lit (i (-1)) },{ f:=156,xs:=[.string ⟨([35,35,35,48]:List UInt8).toArray⟩, .string ⟨([44]:List UInt8).toArray⟩],r:=.lit (i (-1)) },{ f:=156,xs:=[.string ⟨([35,35,44,35,35,48]:List UInt8).toArray⟩, .string ⟨([44]:List UInt8).toArray⟩],r:=.lit (i (2)) },{ f:=156,xs:=[.string ⟨([35,35,44,35,48]:List UInt8).toArray⟩, .string ⟨([44]:List UInt8).toArray⟩],r:=.lit (i (2)) },{ f:=156,xs:=[.string ⟨([35,35,48]:List UInt8).toArray⟩, .string ⟨([44]:List UInt8).toArray⟩],r:=.lit (i (-1)) },{ f:=156,xs:=[.string ⟨([35,44,35,35,35,48]:List UInt8).toArray⟩, .string ⟨([44]:List UInt8).toArray⟩],r:=.lit (i (1)) },{ f:=156,xs:=[.string ⟨([35,44,35,35,35,48,46,48,48]:List UInt8).toArray⟩, .string ⟨([46]:List UInt8).toArray⟩],r:=.lit (i (6)) },{ f:=156,xs:=[.string ⟨([35,44,35,35,44,35,35,48]:List UInt8).toArray⟩, .string ⟨([44]:List UInt8).toArray⟩],r:=.lit (i (1)) },{ f:=156,xs:=[.string ⟨([35,44,35,35,44,35,35,48,46,35,35,35]:List UInt8).toArray⟩, .string ⟨([46]:List UInt8).toArray⟩],r:=.lit (i (8)) },{ f:=156,xs:=[.string ⟨([35,44,35,35,44,35,35,48,46,48,48]:List UInt8).toArray⟩, .string ⟨([46]:List UInt8).toArray⟩],r:=.lit (i (8)) },{ f:=156,xs:=[.string ⟨([35,44,35,35,44,35,48]:List UInt8).toArray⟩, .string ⟨([44]:List UInt8).toArray⟩],r:=.lit (i (1)) },{ f:=156,xs:=[.string ⟨([35,44,35,35,44,35,48,46,35]:List UInt8).toArray⟩, .string ⟨([46]:List UInt8).toArray⟩],r:=.lit (i (7)) },{ f:=156,xs:=[.string ⟨([35,44,35,35,48]:List UInt8).toArray⟩, .string ⟨([44]:List UInt8).toArray⟩],r:=.lit (i (1)) },{ f:=156,xs:=[.string ⟨([35,44,35,35,48]:List UInt8).toArray⟩, .string ⟨([46]:List UInt8).toArray⟩],r:=.lit (i (-1)) },{ f:=156,xs:=[.string ⟨([35,44,35,35,48,46,35,35]:List UInt8).toArray⟩, .string ⟨([46]:List UInt8).toArray⟩],r:=.lit (i (5)) },{ f:=156,xs:=[.string ⟨([35,44,35,35,48,46,48,48]:List UInt8).toArray⟩, .string ⟨([46]:List UInt8).toArray⟩],r:=.lit (i (5)) },{ f:=156,xs:=[.string ⟨([35,48]:List UInt8).toArray⟩, .string ⟨([44]:List UInt8).toArray⟩],r:=.lit (i (-1)) },{ f:=156,xs:=[.string ⟨([48,46,35,35]:List UInt8).toArray⟩, .string ⟨([46]:List UInt8).toArray⟩],r:=.lit (i (1)) },{ f:=156,xs:=[.string ⟨([48,46,48]:List UInt8).toArray⟩, .string ⟨([46]:List UInt8).toArray⟩],r:=.lit (i (1)) },{ f:=156,xs:=[.string ⟨([48,46,48,48]:List UInt8).toArray⟩, .string ⟨([46]:List UInt8).toArray⟩],r:=.lit (i (1)) }]
theorem idxL_ok {B:Base} (h:Ground B):∀ E ∈ idxL,EntOK B Tryz.prog E:=by
  unfold idxL
  simp only [List.forall_mem_cons]
  exact ⟨idx_ok h (by kernel_rfl) (by kernel_rfl),idx_ok h (by kernel_rfl) (by kernel_rfl),idx_ok h (by kernel_rfl) (by kernel_rfl),idx_ok h (by kernel_rfl) (by kernel_rfl),idx_ok h (by kernel_rfl) (by kernel_rfl),idx_ok h (by kernel_rfl) (by kernel_rfl),idx_ok h (by kernel_rfl) (by kernel_rfl),idx_ok h (by kernel_rfl) (by kernel_rfl),idx_ok h (by kernel_rfl) (by kernel_rfl),idx_ok h (by kernel_rfl) (by kernel_rfl),idx_ok h (by kernel_rfl) (by kernel_rfl),idx_ok h (by kernel_rfl) (by kernel_rfl),idx_ok h (by kernel_rfl) (by kernel_rfl),idx_ok h (by kernel_rfl) (by kernel_rfl),idx_ok h (by kernel_rfl) (by kernel_rfl),idx_ok h (by kernel_rfl) (by kernel_rfl),idx_ok h (by kernel_rfl) (by kernel_rfl),idx_ok h (by kernel_rfl) (by kernel_rfl),idx_ok h (by kernel_rfl) (by kernel_rfl),idx_ok h (by kernel_rfl) (by kernel_rfl),fun _ hx=>absurd hx List.not_mem_nil⟩
def locL:List Ent:=idxL ++ (wrdsT.map wrdF ++ ({ f:=113,xs:=[sB []],r:=.lit (.bool false) } :: clsL))
theorem locL_ok {B:Base} (h:Ground B) (hA:∀ n,B.A n = Option.none):∀ E ∈ locL,EntOK B Tryz.prog E:=fun E hE=>by
  rcases List.mem_append.1 hE with hE | hE
  · exact idxL_ok h E hE
  · rcases List.mem_append.1 hE with hE | hE
    · obtain ⟨l,hl,rfl⟩:=List.mem_map.1 hE
      exact wrd_all h hA l hl
    · rcases List.mem_cons.1 hE with rfl | hE
      · exact wrdN h hA
      · exact clsL_ok hA E hE
def locE (hasG:Bool):List Ent2:=[⟨59,[.at_ 12000], .val (.bool true)⟩,⟨124,[.at_ 12140], .val (.bool true)⟩,⟨124,[.at_ 12148], .val (.bool true)⟩] ++ (if hasG then [⟨124,[.at_ 12144], .val (.bool true)⟩] else [])
  ++ [⟨62,[.at_ 12008, .val (i 0)], .tup [.at_ 12100, .val (i 0)]⟩,⟨62,[.at_ 12008, .val (i 1)], .tup [.at_ 12104, .val (i 0)]⟩,⟨62,[.at_ 12008, .val (i 2)], .tup [.at_ 12108, .val (i 0)]⟩,⟨62,[.at_ 12008, .val (i 3)], .tup [.at_ 12112, .val (i 0)]⟩,⟨62,[.at_ 12008, .val (i 4)], .tup [.at_ 12116, .val (i 0)]⟩,
    ⟨62,[.at_ 12008, .val (i 5)], .tup [.at_ 12120, .val (i 0)]⟩,⟨62,[.at_ 12008, .val (i 6)], .tup [.at_ 12124, .val (i 0)]⟩,⟨62,[.at_ 12008, .val (i 7)], .tup [.at_ 12128, .val (i 0)]⟩,⟨62,[.at_ 12008, .val (i 8)], .tup [.at_ 12132, .val (i 0)]⟩,⟨62,[.at_ 12008, .val (i 9)], .tup [.at_ 12136, .val (i 0)]⟩]
def contA:CallT:=fun f args m=>match args with
  | [.slc b 0 20 1 c, .atom n]=>if Nat.beq f 121 && Nat.beq n 12008 then
      match m.H.get b with
      | some (.cells _ cs _)=>if avsEq cs namesL then some (.lit (.bool true),m) else none
      | _=>none
    else none
  | _=>none
def namesB:List ByteArray:=ENames.namL.map fun l=>⟨l.toArray⟩
theorem namesL_lit:namesL = (namesB.map Value.string).map .lit:=by kernel_rfl
theorem contA_ok {B:Base} {s:List UInt8} (hs:B.A 12008 = some (sB s)) (hin:Lib.containsS namesB ⟨s.toArray⟩ = true):CallOK B Tryz.prog contA:=by
  intro f args m r m' hq ρ w xs hm hk hxs
  unfold contA at hq
  split at hq
  case h_2=>cases hq
  rename_i b c n
  split at hq
  case isFalse=>cases hq
  rename_i hc
  rw [Bool.and_eq_true] at hc
  have:=Nat.eq_of_beq_eq_true hc.1; subst this
  have:=Nat.eq_of_beq_eq_true hc.2; subst this
  split at hq
  case h_2=>cases hq
  rename_i e cs tg hb
  split at hq
  case isFalse=>cases hq
  rename_i hcs
  have:=avsEq_eq hcs; subst this
  injection hq with hq; injection hq with e1 e2; subst e1; subst e2
  obtain ⟨X,q,h1,h2,hX⟩:=gams_cons.1 hxs
  obtain ⟨Y,q2,h3,h4,rfl⟩:=gams_cons.1 h2
  rw [gams] at h4; injection h4 with h4; subst h4
  have hxe:xs = #[X,Y]:=by rw [← Array.toList_inj,hX]
  subst hxe
  have:=atom_gam hk.at_ hs h3
  subst this
  obtain ⟨g,o0,z,l,κ,g1,rfl,g2,_⟩:=slc_gam h1
  obtain ⟨g',o',z',arr,vs,b1,b2,b3,b4,b5,b6,b7,_⟩:=hm.live b _ hb
  rw [g1] at b1; injection b1 with b1; injection b1 with c1 b1; injection b1 with c2 b1; subst c1; subst c2
  rw [namesL_lit,gams_lits] at b5
  injection b5 with b5; subst b5
  have hlen:namesL.length = namesB.length:=by rw [namesL_lit]; simp
  have h20:namesB.length = 20:=by kernel_rfl
  refine (Tryz.slices_Contains_string g (o0 + 0) 20 κ namesB ⟨s.toArray⟩ w (by omega) (by omega) (fun j hj=>?_)).mono ?_
  · have:=b7 j (by omega)
    rw [cell_of_row w g _ _ _ _ b2,Nat.add_zero,this,List.getElem?_map,List.getElem?_eq_getElem hj]
    simp [List.getD_eq_getElem?_getD,List.getElem?_eq_getElem hj]
  · rintro e w' ⟨rfl,rfl⟩
    refine ⟨ρ, .bool true,?_,rfl, .refl hm⟩
    rw [List.take_of_length_le (by omega),hin]
def locO (hasG:Bool):CallT:=orcOr (entsA locL) (orcOr (ent2A (locE hasG)) (orcOr contA namesA))
def locP (pat cur pct:List UInt8) (hasG:Bool):List Pat:=[.agg [.at_ 12000, .val (sB pat), .at_ 12008, .at_ 12140,if hasG then .at_ 12144 else .val (sB []), .at_ 12148, .val (sB pct), .val (sB cur)]]
noncomputable def locRun (B:Base) (pat cur pct:List UInt8) (hasG:Bool) (cl:List (List UInt8)):Bool :=
  match callE B (tbS cl) (locO hasG) 24 (bldPs 0 (locP pat cur pct hasG)).1 { nc:=(bldPs 0 (locP pat cur pct hasG)).2 } with
  | some (r,_)=>okPtr r
  | none=>false
end Go.Sym
end
section
namespace Go.Sym
open Go Go.Proofs Go.RowKit
structure Wd (w:World):Prop where
  tabs:Lib.Utf8Tabs 2 3 w
  most:∃ m,w.cell? ⟨1,0,none⟩ = some (.int .i64 m)
theorem Wd.lt {w:World} (h:Wd w):4 ≤ w.heap.size:=World.block_lt_of_cell? w _ (h.tabs.2 0 (by omega)).1
theorem Wd.ground {w:World} (h:Wd w) (A:Nat→Option Value):Ground ⟨w.heap.size,w,A⟩:=⟨h.lt,h.tabs,h.most⟩
theorem Wd.below {w w':World} (h:Wd w) (hb:Below w.heap.size w w'):Wd w':=by
  have hc:∀ p:Addr,p.block < w.heap.size→w'.cell? p = w.cell? p:=fun p hp=>by
    unfold World.cell?
    rw [hb.block _ hp]
  have hl:=h.lt
  obtain ⟨m,hm⟩:=h.most
  exact ⟨⟨fun c hx=>by rw [hc _ (show 2 < w.heap.size by omega)]; exact h.tabs.1 c hx,fun i hi=>⟨by rw [hc _ (show 3 < w.heap.size by omega)]; exact (h.tabs.2 i hi).1,by rw [hc _ (show 3 < w.heap.size by omega)]; exact (h.tabs.2 i hi).2⟩⟩,m,by rw [hc _ (show 1 < w.heap.size by omega)]; exact hm⟩
structure Rec8 where
  name:List UInt8
  pat:List UInt8
  sys:List UInt8
  dec:List UInt8
  grp:List UInt8
  min:List UInt8
  pct:List UInt8
  cur:List UInt8
def Rec8.V (r:Rec8):Value:=.agg #[sB r.name,sB r.pat,sB r.sys,sB r.dec,sB r.grp,sB r.min,sB r.pct,sB r.cur]
def LocOK (r:Rec8):Prop:=∀ w,Wd w→Calls Tryz.prog 24 #[r.V] w fun e w'=>∃ x,e = .returned (.tuple #[x, .nilIface])∧x.oneCell' = true∧Below w.heap.size w w'
theorem ent_to2 {B:Base} {P:Program} {n:Nat} {x v:Value} {f:FuncId} (hx:B.A n = some x) (h:EntOK B P { f:=f,xs:=[x],r:=.lit v }):Ent2OK B P ⟨f,[.at_ n], .val v⟩:=by
  refine ⟨⟨⟨_,hx⟩,trivial⟩,fun w hu xs hxs=>?_⟩
  obtain ⟨y,r,rfl,⟨h1,_⟩,rfl⟩:=hxs
  rw [hx] at h1; injection h1 with h1; subst h1
  obtain ⟨u,hu1,hu2⟩:=h
  have:=hu1 Env.none
  injection this with this; subst this
  refine (hu2 w hu).mono ?_
  rintro e w' ⟨rfl,hb⟩
  exact ⟨_,rfl,rfl,hb⟩
theorem dig_to2 {B:Base} {p:List UInt8 × List (List UInt8)} {d n:Nat} (hs:B.A 12008 = some (sB p.1)) (hd:B.A n = some (sB (p.2.getD d []))) (h:Ent2OK B Tryz.prog (digE p d)):Ent2OK B Tryz.prog ⟨62,[.at_ 12008, .val (i d)], .tup [.at_ n, .val (i 0)]⟩:=by
  refine ⟨⟨⟨_,hs⟩,trivial,trivial⟩,fun w hu xs hxs=>?_⟩
  obtain ⟨y,r,rfl,⟨h1,_⟩,z,r2,rfl,h2,rfl⟩:=hxs
  rw [hs] at h1; injection h1 with h1; subst h1
  refine (h.2 w hu [sB p.1,z] ⟨_,_,rfl,rfl,_,_,rfl,h2,rfl⟩).mono ?_
  rintro e w' ⟨x,rfl,⟨ys,rfl,y0,_,rfl,b0,y1,_,rfl,b1,rfl⟩,hb⟩
  refine ⟨_,rfl,⟨_,rfl,_,_,rfl,⟨?_,?_⟩,_,_,rfl,b1,rfl⟩,hb⟩
  · rw [hd,show y0 = _ from b0]
  · rw [show y0 = _ from b0]; rfl
theorem loc_any {r:Rec8} {hasG:Bool} {cl L:List (List UInt8)} {s:Nat} (hrun:∀ B,locRun B r.pat r.cur r.pct hasG cl = true) (hl:L.length = 13) (hn:nodupL L = true) (hf:farL cl L = true) (hname:r.name ∈ namsT) (hs:s < 20)
    (hsy:(sysT.getD s ([],[])).1 = r.sys) (hdg:∀ d:Nat,d < 10→L.getD d [] = (sysT.getD s ([],[])).2.getD d []) (hd:L.getD 10 [] = r.dec) (hd2:r.dec ∈ symsT) (hg:hasG = true→L.getD 11 [] = r.grp∧r.grp ∈ symsT) (hg0:hasG = false→r.grp = []) (hm:L.getD 12 [] = r.min) (hm2:r.min ∈ symsT)
    (hin:Lib.containsS namesB ⟨r.sys.toArray⟩ = true):LocOK r:=by
  intro w hw
  let l:List (Nat × Value):=symL L ++ [(12000,sB r.name),(12008,sB r.sys)]
  have hev:∀ i x,(basW w l).A i = some x→i % 2 ≠ 1:=ev_of (by kernel_rfl)
  have hA:∀ k,k < 13→(basW w l).A (12100 + 4 * k) = some (sB (L.getD k [])):=fun k hk=>symL_at L _ hk
  have hnm:(basW w l).A 12000 = some (sB r.name):=rfl
  have hsys:(basW w l).A 12008 = some (sB r.sys):=rfl
  have hG:=hw.ground (atL l)
  have hG0:=hw.ground (fun _=>none)
  have hbs:∀ {E:Ent},EntOK ⟨w.heap.size,w,fun _=>none⟩ Tryz.prog E→EntOK (basW w l) Tryz.prog E:=fun h=>EntOK.base (B:=⟨w.heap.size,w,fun _=>none⟩) (B':=basW w l) rfl rfl h
  have h1:CallOK (basW w l) Tryz.prog (entsA locL):=ents_ok fun E hE=>hbs (locL_ok hG0 (fun _=>rfl) E hE)
  have hsy1:∀ x n,x ∈ symsT→(basW w l).A n = some (sB x)→Ent2OK (basW w l) Tryz.prog ⟨124,[.at_ n], .val (.bool true)⟩:=fun x n hx hn=>ent_to2 hn (hbs (sym_all hG0 (fun _=>rfl) x hx))
  have hdig:∀ d:Nat,d < 10→Ent2OK (basW w l) Tryz.prog ⟨62,[.at_ 12008, .val (i d)], .tup [.at_ (12100 + 4 * d), .val (i 0)]⟩:=fun d hd=>dig_to2 (p:=sysT.getD s ([],[])) (by rw [hsys,hsy]) (by rw [hA d (by omega),hdg d hd]) (dig_all hev s hs d hd)
  have h2:CallOK (basW w l) Tryz.prog (ent2A (locE hasG)):=ent2_ok fun E hE=>by
    unfold locE at hE
    rcases List.mem_append.1 hE with hE | hE
    · rcases List.mem_append.1 hE with hE | hE
      · simp only [List.mem_cons,List.not_mem_nil,or_false] at hE
        rcases hE with rfl | rfl | rfl
        · exact ent_to2 hnm (hbs (nam_all hG0 (fun _=>rfl) _ hname))
        · exact hsy1 r.dec _ hd2 (by rw [hA 10 (by omega),hd])
        · exact hsy1 r.min _ hm2 (by rw [hA 12 (by omega),hm])
      · cases hasG
        · cases hE
        · rw [if_pos rfl] at hE
          simp only [List.mem_cons,List.not_mem_nil,or_false] at hE
          subst hE
          exact hsy1 r.grp _ (hg rfl).2 (by rw [hA 11 (by omega),(hg rfl).1])
    · simp only [List.mem_cons,List.not_mem_nil,or_false] at hE
      rcases hE with rfl | rfl | rfl | rfl | rfl | rfl | rfl | rfl | rfl | rfl
      · exact hdig 0 (by omega)
      · exact hdig 1 (by omega)
      · exact hdig 2 (by omega)
      · exact hdig 3 (by omega)
      · exact hdig 4 (by omega)
      · exact hdig 5 (by omega)
      · exact hdig 6 (by omega)
      · exact hdig 7 (by omega)
      · exact hdig 8 (by omega)
      · exact hdig 9 (by omega)
  have ho:CallOK (basW w l) Tryz.prog (locO hasG):=orcOr_ok h1 (orcOr_ok h2 (orcOr_ok (contA_ok hsys hin) namesA_ok))
  have hx:IsPs (basW w l) (fun _=>True) w (locP r.pat r.cur r.pct hasG) [r.V]:=by
    refine ⟨_,_,rfl,⟨_,rfl,_,_,rfl,⟨rfl,rfl⟩,_,_,rfl,rfl,_,_,rfl,⟨rfl,rfl⟩,_,_,rfl,⟨(hA 10 (by omega)).trans (by rw [hd]),rfl⟩,_,_,rfl,?_,_,_,rfl,⟨(hA 12 (by omega)).trans (by rw [hm]),rfl⟩,_,_,rfl,rfl,_,_,rfl,rfl,rfl⟩,rfl⟩
    cases hasG
    · rw [hg0 rfl]; rfl
    · exact ⟨(hA 11 (by omega)).trans (by rw [(hg rfl).1]),rfl⟩
  refine (run_chk hev (callE_ok (tbS_ok hA hl hn hf) ho) (c:=(bldPs 0 (locP r.pat r.cur r.pct hasG)).2) (a:=(bldPs 0 (locP r.pat r.cur r.pct hasG)).1) rfl (chk:=okPtr) (Q:=fun x=>∃ p,x = .tuple #[p, .nilIface]∧p.oneCell' = true) (fun ρ r x h hx=>okPtr_gam h hx) (hrun _) w (basW_under _ _) [r.V] hx).mono ?_
  rintro e w' ⟨x,rfl,⟨p,rfl,hp⟩,hb⟩
  exact ⟨p,rfl,hp,hb⟩
end Go.Sym
end
section
namespace Go.Sym
open Go Go.Proofs Go.RowKit Go.Proofs.YteiomfgehlojeaaGreatDoor
def litsEq2:List Value→List Value→Bool
  | [],[]=>true
  | a :: x,b :: y=>litEq a b && litsEq2 x y
  | _,_=>false
theorem litsEq2_eq:∀ {a b:List Value},litsEq2 a b = true→a = b
  | [],[],_=>rfl
  | [],_ :: _,h=>by cases h
  | _ :: _,[],h=>by cases h
  | a :: x,b :: y,h=>by
    unfold litsEq2 at h
    rw [Bool.and_eq_true] at h
    rw [litEq_eq h.1,litsEq2_eq h.2]
def okPat (v:List Int):AV→Bool
  | .tup [.agg [a,b,c,d, .lit p, .lit q, .lit r, .lit s, .lit t], .lit z]=>one a && (one b && (one c && (one d && litsEq2 [p,q,r,s,t,z] [i (v.getD 0 0),i (v.getD 1 0),i (v.getD 2 0),i (v.getD 3 0),i (v.getD 4 0),i 0])))
  | _=>false
def PatV (v:List Int) (x:Value):Prop:=∃ a b c d,x = .agg #[a,b,c,d,i (v.getD 0 0),i (v.getD 1 0),i (v.getD 2 0),i (v.getD 3 0),i (v.getD 4 0)]∧a.oneCell' = true∧b.oneCell' = true∧c.oneCell' = true∧d.oneCell' = true
theorem okPat_gam {v:List Int} {ρ:Env} {a:AV} (h:okPat v a = true) {x:Value} (hx:gam ρ a = some x):∃ y,x = .tuple #[y,i 0]∧PatV v y:=by
  unfold okPat at h
  split at h
  case h_2=>cases h
  rename_i a b c d p q r s t z
  simp only [Bool.and_eq_true] at h
  obtain ⟨h1,h2,h3,h4,h5⟩:=h
  have h5:=litsEq2_eq h5
  simp only [List.cons.injEq,and_true] at h5
  obtain ⟨rfl,rfl,rfl,rfl,rfl,rfl⟩:=h5
  unfold gam at hx
  split at hx
  case h_2=>cases hx
  rename_i ys hys
  injection hx with hx; subst hx
  obtain ⟨y,q1,g1,g2,rfl⟩:=gams_cons.1 hys
  obtain ⟨z,q2,g3,g4,rfl⟩:=gams_cons.1 g2
  rw [gams] at g4; injection g4 with g4; subst g4
  injection g3 with g3; subst g3
  refine ⟨y,rfl,?_⟩
  unfold gam at g1
  split at g1
  case h_2=>cases g1
  rename_i zs hzs
  injection g1 with g1; subst g1
  obtain ⟨a',r1,k1,l1,rfl⟩:=gams_cons.1 hzs
  obtain ⟨b',r2,k2,l2,rfl⟩:=gams_cons.1 l1
  obtain ⟨c',r3,k3,l3,rfl⟩:=gams_cons.1 l2
  obtain ⟨d',r4,k4,l4,rfl⟩:=gams_cons.1 l3
  have:gams ρ [.lit (i (v.getD 0 0)), .lit (i (v.getD 1 0)), .lit (i (v.getD 2 0)), .lit (i (v.getD 3 0)), .lit (i (v.getD 4 0))] = some [i (v.getD 0 0),i (v.getD 1 0),i (v.getD 2 0),i (v.getD 3 0),i (v.getD 4 0)]:=rfl
  rw [this] at l4; injection l4 with l4; subst l4
  exact ⟨a',b',c',d',rfl,one_gam h1 k1,one_gam h2 k2,one_gam h3 k3,one_gam h4 k4⟩
noncomputable def patRun (B:Base) (pat:List UInt8) (v:List Int):Bool:=match callE B noTb noOrc 92 [.lit (sB pat)] {} with
  | some (r,_)=>okPat v r
  | none=>false
theorem pat_any {pat:List UInt8} {v:List Int} (h:∀ B,patRun B pat v = true) (w:World):Calls Tryz.prog 92 #[sB pat] w fun e w'=>∃ y,e = .returned (.tuple #[y,i 0])∧PatV v y∧Below w.heap.size w w':=by
  have hh:=h (bas w [])
  unfold patRun at hh
  have hc:CallOK (bas w []) Tryz.prog (callE (bas w []) noTb noOrc):=callE_ok noTb_ok noOrc_ok
  generalize callE (bas w []) noTb noOrc = cl at hh hc
  refine (run_chk (B:=bas w []) (ps:=[.val (sB pat)]) (fun _ _ h=>by cases h) hc (a:=[.lit (sB pat)]) (c:=0) rfl (chk:=okPat v) (Q:=fun x=>∃ y,x = .tuple #[y,i 0]∧PatV v y) (fun ρ r x h hx=>okPat_gam h hx) hh w (bas_under _ _ _) [sB pat] ⟨_,_,rfl,rfl,rfl⟩).mono ?_
  rintro e w' ⟨x,rfl,⟨y,rfl,hy⟩,hb⟩
  exact ⟨y,rfl,hy,hb⟩
def patNT:List (List UInt8 × List Int):=[([35,44,35,35,35,48,46,48,48,121,59,121,35,44,35,35,48,46,48,48,45,121],[4,4,1,2,2]),([35,44,35,35,44,35,35,48,46,35,35,35],[3,2,1,0,3]),([35,44,35,35,44,35,35,48,46,48,48,194,164],[3,2,1,2,2]),([35,44,35,35,44,35,48,46,35,59,39,35,39,35,45,39,35,39],[2,2,1,0,1]),([35,44,35,35,48,37],[3,3,1,0,0]),([35,44,35,35,48,46,35,35,37],[3,3,1,0,2]),([35,44,35,35,48,46,48,48],[3,3,1,2,2]),([35,44,35,35,48,46,48,48,120,194,164],[3,3,1,2,2]),([35,44,35,35,48,46,48,48,194,160,194,164],[3,3,1,2,2]),([35,44,35,35,48,46,48,48,194,164],[3,3,1,2,2]),([48,46,35,35],[0,0,1,0,2]),([48,46,48,48,194,160,194,164],[0,0,1,2,2]),([48,46,48,59,48,46,48,45],[0,0,1,1,1]),([194,164,35,44,35,35,44,35,35,48,46,48,48],[3,2,1,2,2]),([194,164,35,44,35,35,48],[3,3,1,0,0]),([194,164,35,44,35,35,48,46,48,48],[3,3,1,2,2]),([194,164,35,44,35,35,48,46,48,48,59,194,164,45,35,44,35,35,48,46,48,48],[3,3,1,2,2]),([194,164,120,35,44,35,35,48,46,48,48,59,40,194,164,120,45,35,41],[3,3,1,2,2]),([194,164,194,160,35,44,35,35,44,35,35,48,46,48,48],[3,2,1,2,2]),([194,164,194,160,35,44,35,35,48,46,48,48],[3,3,1,2,2]),([194,164,194,160,35,44,35,35,48,46,48,48,59,194,164,45,35,44,35,35,48,46,48,48],[3,3,1,2,2]),([194,164,194,160,35,44,35,35,48,46,48,48,59,194,164,194,160,45,35,44,35,35,48,46,48,48],[3,3,1,2,2])]
theorem pt0 {B:Base}:patRun B [35,44,35,35,35,48,46,48,48,121,59,121,35,44,35,35,48,46,48,48,45,121] [4,4,1,2,2] = true:=by kernel_rfl
theorem pt1 {B:Base}:patRun B [35,44,35,35,44,35,35,48,46,35,35,35] [3,2,1,0,3] = true:=by kernel_rfl
theorem pt2 {B:Base}:patRun B [35,44,35,35,44,35,35,48,46,48,48,194,164] [3,2,1,2,2] = true:=by kernel_rfl
theorem pt3 {B:Base}:patRun B [35,44,35,35,44,35,48,46,35,59,39,35,39,35,45,39,35,39] [2,2,1,0,1] = true:=by kernel_rfl
theorem pt4 {B:Base}:patRun B [35,44,35,35,48,37] [3,3,1,0,0] = true:=by kernel_rfl
theorem pt5 {B:Base}:patRun B [35,44,35,35,48,46,35,35,37] [3,3,1,0,2] = true:=by kernel_rfl
theorem pt6 {B:Base}:patRun B [35,44,35,35,48,46,48,48] [3,3,1,2,2] = true:=by kernel_rfl
theorem pt7 {B:Base}:patRun B [35,44,35,35,48,46,48,48,120,194,164] [3,3,1,2,2] = true:=by kernel_rfl
theorem pt8 {B:Base}:patRun B [35,44,35,35,48,46,48,48,194,160,194,164] [3,3,1,2,2] = true:=by kernel_rfl
theorem pt9 {B:Base}:patRun B [35,44,35,35,48,46,48,48,194,164] [3,3,1,2,2] = true:=by kernel_rfl
theorem pt10 {B:Base}:patRun B [48,46,35,35] [0,0,1,0,2] = true:=by kernel_rfl
theorem pt11 {B:Base}:patRun B [48,46,48,48,194,160,194,164] [0,0,1,2,2] = true:=by kernel_rfl
theorem pt12 {B:Base}:patRun B [48,46,48,59,48,46,48,45] [0,0,1,1,1] = true:=by kernel_rfl
theorem pt13 {B:Base}:patRun B [194,164,35,44,35,35,44,35,35,48,46,48,48] [3,2,1,2,2] = true:=by kernel_rfl
theorem pt14 {B:Base}:patRun B [194,164,35,44,35,35,48] [3,3,1,0,0] = true:=by kernel_rfl
theorem pt15 {B:Base}:patRun B [194,164,35,44,35,35,48,46,48,48] [3,3,1,2,2] = true:=by kernel_rfl
theorem pt16 {B:Base}:patRun B [194,164,35,44,35,35,48,46,48,48,59,194,164,45,35,44,35,35,48,46,48,48] [3,3,1,2,2] = true:=by kernel_rfl
theorem pt17 {B:Base}:patRun B [194,164,120,35,44,35,35,48,46,48,48,59,40,194,164,120,45,35,41] [3,3,1,2,2] = true:=by kernel_rfl
theorem pt18 {B:Base}:patRun B [194,164,194,160,35,44,35,35,44,35,35,48,46,48,48] [3,2,1,2,2] = true:=by kernel_rfl
theorem pt19 {B:Base}:patRun B [194,164,194,160,35,44,35,35,48,46,48,48] [3,3,1,2,2] = true:=by kernel_rfl
theorem pt20 {B:Base}:patRun B [194,164,194,160,35,44,35,35,48,46,48,48,59,194,164,45,35,44,35,35,48,46,48,48] [3,3,1,2,2] = true:=by kernel_rfl
theorem pt21 {B:Base}:patRun B [194,164,194,160,35,44,35,35,48,46,48,48,59,194,164,194,160,45,35,44,35,35,48,46,48,48] [3,3,1,2,2] = true:=by kernel_rfl
theorem pat_all:∀ p ∈ patNT,∀ B,patRun B p.1 p.2 = true:=by
  unfold patNT
  simp only [List.forall_mem_cons]
  exact ⟨fun _=>pt0,fun _=>pt1,fun _=>pt2,fun _=>pt3,fun _=>pt4,fun _=>pt5,fun _=>pt6,fun _=>pt7,fun _=>pt8,fun _=>pt9,fun _=>pt10,fun _=>pt11,fun _=>pt12,fun _=>pt13,fun _=>pt14,fun _=>pt15,fun _=>pt16,fun _=>pt17,fun _=>pt18,fun _=>pt19,fun _=>pt20,fun _=>pt21,fun _ hx=>absurd hx List.not_mem_nil⟩
end Go.Sym
end
section
namespace Go.Sym
theorem law_run:∀ m,m < 10→∀ met n0 sg B,lawRun B m met n0 sg = true
  | 0,_,true,true,true,_=>lw0ttt
  | 0,_,true,true,false,_=>lw0ttf
  | 0,_,true,false,true,_=>lw0tft
  | 0,_,true,false,false,_=>lw0tff
  | 0,_,false,true,true,_=>lw0ftt
  | 0,_,false,true,false,_=>lw0ftf
  | 0,_,false,false,true,_=>lw0fft
  | 0,_,false,false,false,_=>lw0fff
  | 1,_,true,true,true,_=>lw1ttt
  | 1,_,true,true,false,_=>lw1ttf
  | 1,_,true,false,true,_=>lw1tft
  | 1,_,true,false,false,_=>lw1tff
  | 1,_,false,true,true,_=>lw1ftt
  | 1,_,false,true,false,_=>lw1ftf
  | 1,_,false,false,true,_=>lw1fft
  | 1,_,false,false,false,_=>lw1fff
  | 2,_,true,true,true,_=>lw2ttt
  | 2,_,true,true,false,_=>lw2ttf
  | 2,_,true,false,true,_=>lw2tft
  | 2,_,true,false,false,_=>lw2tff
  | 2,_,false,true,true,_=>lw2ftt
  | 2,_,false,true,false,_=>lw2ftf
  | 2,_,false,false,true,_=>lw2fft
  | 2,_,false,false,false,_=>lw2fff
  | 3,_,true,true,true,_=>lw3ttt
  | 3,_,true,true,false,_=>lw3ttf
  | 3,_,true,false,true,_=>lw3tft
  | 3,_,true,false,false,_=>lw3tff
  | 3,_,false,true,true,_=>lw3ftt
  | 3,_,false,true,false,_=>lw3ftf
  | 3,_,false,false,true,_=>lw3fft
  | 3,_,false,false,false,_=>lw3fff
  | 4,_,true,true,true,_=>lw4ttt
  | 4,_,true,true,false,_=>lw4ttf
  | 4,_,true,false,true,_=>lw4tft
  | 4,_,true,false,false,_=>lw4tff
  | 4,_,false,true,true,_=>lw4ftt
  | 4,_,false,true,false,_=>lw4ftf
  | 4,_,false,false,true,_=>lw4fft
  | 4,_,false,false,false,_=>lw4fff
  | 5,_,true,true,true,_=>lw5ttt
  | 5,_,true,true,false,_=>lw5ttf
  | 5,_,true,false,true,_=>lw5tft
  | 5,_,true,false,false,_=>lw5tff
  | 5,_,false,true,true,_=>lw5ftt
  | 5,_,false,true,false,_=>lw5ftf
  | 5,_,false,false,true,_=>lw5fft
  | 5,_,false,false,false,_=>lw5fff
  | 6,_,true,true,true,_=>lw6ttt
  | 6,_,true,true,false,_=>lw6ttf
  | 6,_,true,false,true,_=>lw6tft
  | 6,_,true,false,false,_=>lw6tff
  | 6,_,false,true,true,_=>lw6ftt
  | 6,_,false,true,false,_=>lw6ftf
  | 6,_,false,false,true,_=>lw6fft
  | 6,_,false,false,false,_=>lw6fff
  | 7,_,true,true,true,_=>lw7ttt
  | 7,_,true,true,false,_=>lw7ttf
  | 7,_,true,false,true,_=>lw7tft
  | 7,_,true,false,false,_=>lw7tff
  | 7,_,false,true,true,_=>lw7ftt
  | 7,_,false,true,false,_=>lw7ftf
  | 7,_,false,false,true,_=>lw7fft
  | 7,_,false,false,false,_=>lw7fff
  | 8,_,true,true,true,_=>lw8ttt
  | 8,_,true,true,false,_=>lw8ttf
  | 8,_,true,false,true,_=>lw8tft
  | 8,_,true,false,false,_=>lw8tff
  | 8,_,false,true,true,_=>lw8ftt
  | 8,_,false,true,false,_=>lw8ftf
  | 8,_,false,false,true,_=>lw8fft
  | 8,_,false,false,false,_=>lw8fff
  | 9,_,true,true,true,_=>lw9ttt
  | 9,_,true,true,false,_=>lw9ttf
  | 9,_,true,false,true,_=>lw9tft
  | 9,_,true,false,false,_=>lw9tff
  | 9,_,false,true,true,_=>lw9ftt
  | 9,_,false,true,false,_=>lw9ftf
  | 9,_,false,false,true,_=>lw9fft
  | 9,_,false,false,false,_=>lw9fff
  | n + 10,h,_,_,_,_=>absurd h (by omega)
end Go.Sym
end
section
namespace Go.Proofs.YteiomfgehlojeaaGreatDoor
open Go
theorem ty_fits:Tryz.pinned.checked.prog.listedFits [("unicode/utf8.first",Rows.laid_unicode_utf8_first),("unicode/utf8.acceptRanges",Rows.laid_unicode_utf8_acceptRanges),("errors.errorType",Rows.laid_errors_errorType),("internal/strconv.uint64pow10",Rows.laid_internal_strconv_uint64pow10),("math/bits.deBruijn32tab",Rows.laid_math_bits_deBruijn32tab),("math/bits.deBruijn64tab",Rows.laid_math_bits_deBruijn64tab),("strconv.ErrSyntax",Rows.laid_strconv_ErrSyntax),("strconv.ErrRange",Rows.laid_strconv_ErrRange)] = true:=by
  unfold Program.listedFits
  rw [ty_un]
  kernel_rfl
theorem ty_tie:Tryz.prog.laidByTextLater [("unicode/utf8.acceptRanges",Rows.laid_unicode_utf8_acceptRanges),("errors.errorType",Rows.laid_errors_errorType),("internal/strconv.uint64pow10",Rows.laid_internal_strconv_uint64pow10),("math/bits.deBruijn32tab",Rows.laid_math_bits_deBruijn32tab),("math/bits.deBruijn64tab",Rows.laid_math_bits_deBruijn64tab),("strconv.ErrSyntax",Rows.laid_strconv_ErrSyntax),("strconv.ErrRange",Rows.laid_strconv_ErrRange)] [.data, .handle, .data, .data, .data, .sentinel, .sentinel] true :=
  Program.laidByTextLater_by_run_h 400 8 ty_w1 ty_w2 ty_w3 ty_k ty_g ty_n ty_d ty_h1 ty_h2 ty_h3
theorem ty_row:Rows.topStepsRow.laidByTextAt .later Tryz.pinned [.pinned, .data, .handle, .data, .data, .data, .sentinel, .sentinel] true :=
  OpenClaim.laidByTextAt_pinned rfl rfl ty_tie rfl rfl rfl rfl (fun y hy _e=>by
    simp only [Rows.topStepsRow,List.zip_cons_cons,List.zip_nil_right,List.mem_cons,List.mem_nil_iff,or_false] at hy
    rcases hy with rfl | rfl | rfl | rfl | rfl | rfl | rfl | rfl
    · exact ⟨ty_pin,by kernel_rfl⟩
    · cases _e
    · cases _e
    · cases _e
    · cases _e
    · cases _e
    · cases _e
    · cases _e) ty_fits
end Go.Proofs.YteiomfgehlojeaaGreatDoor
end
section
namespace Go.Proofs.YteiomfgehlojeaaGreatDoor.topSteps
open Go.ChangeShapes Go.WideShapes Go.ChangeAt Go.RowKit
theorem laidWorld_met (os:Os):laidMetH Tryz.prog Rows.topStepsRow.laid (calledWorld os).memory:=by
  have e1:(plainL.filter fun x=>(plainL.map (·.1)).contains x.1) = plainL:=List.filter_eq_self.2 fun x hx=>List.contains_iff_mem.2 (List.mem_map.2 ⟨x,hx,rfl⟩)
  have e2:(plainL.filter fun x=>!(plainL.map (·.1)).contains x.1) = []:=List.filter_eq_nil_iff.2 fun x hx=>by rw [List.contains_iff_mem.2 (List.mem_map.2 ⟨x,hx,rfl⟩)]; simp
  have h:laidMet Tryz.prog plainL (laidWorld os):=laidMet_layVars (w0:=handledWorld os) (plainL.map (·.1)) [] (by rw [e1]; rfl) (by rw [e1]; exact wi_fits os) (by rw [e1]; exact wi_ifaces os) (by rw [e2]; exact LaidIn.none)
  exact laidMetH_of_parts (h.of_heap (by simp [calledWorld,World.memory,World.forCall,Input.heap])) (wi_handle os)
theorem witness (os:Os) (H:Type) (enc:TypeId × Value→H):∃ (w:World) (tape:Tape) (i:Input),w.os = os∧(w.forCall tape i).Shaped Tryz.prog∧i.vars = []∧Input.okWide Tryz.prog (w.forCall tape i) .any w.heap.size 3 i ∧
    ((Rows.topStepsSpec.pre enc Tryz.prog Tryz.f3 Rows.topStepsRow.domain false (w.forCall tape i).memory i.args∧laidMetH Tryz.prog Rows.topStepsRow.laid (w.forCall tape i).memory)∧sizedMet enc Tryz.prog Tryz.f3 (OpenSpec.ofChange Rows.topStepsSpec) false (w.forCall tape i).memory i.args)∧({}:Assume).holds Tryz.prog (lone (Frame.enter Tryz.prog 3 i.args .normal) [] (w.forCall tape i)) :=
  ChangeSpec.witness_shaped (enc:=enc) (C:=Tryz.checked) (os:=os) (X:=fun w _=>laidMetH Tryz.prog Rows.topStepsRow.laid w) false (laidWorld os) args0 8 (laidWorld_os os)
    (World.shaped_of_ZipB (wi_zip os) (wi_rest os)) (wi_wide os) (wi_pre os enc) (wi_sized os enc) (laidWorld_met os)
end Go.Proofs.YteiomfgehlojeaaGreatDoor.topSteps
end
