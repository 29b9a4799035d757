/- The claim TopSteps, part 4 of 46: ELcD, Mem, Base, Pk1, DigP, DigC, Dg1, DecP, Dg2, Dg3, Dg4, Dg5, Dg6, Dg7, Apz, Dg8, Dc0 -/
import Derived.Test.YteiomfgehlojeaaGreatDoorK02
import Derived.Test.YteiomfgehlojeaaGreatDoorK03
import Derived.WalkKit
import Derived.WalkSpells
import Derived.WalkLawsBesides
import Derived.Lib.Hide
import Derived.Lib.OthersKept
import Derived.Laws.OwnMore
import Derived.Test.YteiomfgehlojeaaGreatDoorProg
import Derived.Deep.QuietTactic
import Derived.BigQuiet
import Derived.Lib.SlBuf
set_option linter.unusedVariables false
set_option linter.unusedSimpArgs false
section
namespace Go.Sym
open Go Go.Proofs
def sysT:List (List UInt8 × List (List UInt8)):=[([97,114,97,98],[[217,160],[217,161],[217,162],[217,163],[217,164],[217,165],[217,166],[217,167],[217,168],[217,169]]),
  ([97,114,97,98,101,120,116],[[219,176],[219,177],[219,178],[219,179],[219,180],[219,181],[219,182],[219,183],[219,184],[219,185]]),
  ([98,101,110,103],[[224,167,166],[224,167,167],[224,167,168],[224,167,169],[224,167,170],[224,167,171],[224,167,172],[224,167,173],[224,167,174],[224,167,175]]),
  ([100,101,118,97],[[224,165,166],[224,165,167],[224,165,168],[224,165,169],[224,165,170],[224,165,171],[224,165,172],[224,165,173],[224,165,174],[224,165,175]]),
  ([102,117,108,108,119,105,100,101],[[239,188,144],[239,188,145],[239,188,146],[239,188,147],[239,188,148],[239,188,149],[239,188,150],[239,188,151],[239,188,152],[239,188,153]]),
  ([103,117,106,114],[[224,171,166],[224,171,167],[224,171,168],[224,171,169],[224,171,170],[224,171,171],[224,171,172],[224,171,173],[224,171,174],[224,171,175]]),
  ([103,117,114,117],[[224,169,166],[224,169,167],[224,169,168],[224,169,169],[224,169,170],[224,169,171],[224,169,172],[224,169,173],[224,169,174],[224,169,175]]),
  ([107,104,109,114],[[225,159,160],[225,159,161],[225,159,162],[225,159,163],[225,159,164],[225,159,165],[225,159,166],[225,159,167],[225,159,168],[225,159,169]]),
  ([107,110,100,97],[[224,179,166],[224,179,167],[224,179,168],[224,179,169],[224,179,170],[224,179,171],[224,179,172],[224,179,173],[224,179,174],[224,179,175]]),
  ([108,97,111,111],[[224,187,144],[224,187,145],[224,187,146],[224,187,147],[224,187,148],[224,187,149],[224,187,150],[224,187,151],[224,187,152],[224,187,153]]),
  ([108,97,116,110],[[48],[49],[50],[51],[52],[53],[54],[55],[56],[57]]),
  ([109,97,116,104,115,97,110,98],[[240,157,159,172],[240,157,159,173],[240,157,159,174],[240,157,159,175],[240,157,159,176],[240,157,159,177],[240,157,159,178],[240,157,159,179],[240,157,159,180],[240,157,159,181]]),
  ([109,108,121,109],[[224,181,166],[224,181,167],[224,181,168],[224,181,169],[224,181,170],[224,181,171],[224,181,172],[224,181,173],[224,181,174],[224,181,175]]),
  ([109,111,110,103],[[225,160,144],[225,160,145],[225,160,146],[225,160,147],[225,160,148],[225,160,149],[225,160,150],[225,160,151],[225,160,152],[225,160,153]]),
  ([109,121,109,114],[[225,129,128],[225,129,129],[225,129,130],[225,129,131],[225,129,132],[225,129,133],[225,129,134],[225,129,135],[225,129,136],[225,129,137]]),
  ([111,114,121,97],[[224,173,166],[224,173,167],[224,173,168],[224,173,169],[224,173,170],[224,173,171],[224,173,172],[224,173,173],[224,173,174],[224,173,175]]),
  ([116,97,109,108,100,101,99],[[224,175,166],[224,175,167],[224,175,168],[224,175,169],[224,175,170],[224,175,171],[224,175,172],[224,175,173],[224,175,174],[224,175,175]]),
  ([116,101,108,117],[[224,177,166],[224,177,167],[224,177,168],[224,177,169],[224,177,170],[224,177,171],[224,177,172],[224,177,173],[224,177,174],[224,177,175]]),
  ([116,104,97,105],[[224,185,144],[224,185,145],[224,185,146],[224,185,147],[224,185,148],[224,185,149],[224,185,150],[224,185,151],[224,185,152],[224,185,153]]),
  ([116,105,98,116],[[224,188,160],[224,188,161],[224,188,162],[224,188,163],[224,188,164],[224,188,165],[224,188,166],[224,188,167],[224,188,168],[224,188,169]])]
def zroT:List (List UInt8 × Int):=[([97,114,97,98],1632),([97,114,97,98,101,120,116],1776),([98,101,110,103],2534),([100,101,118,97],2406),([102,117,108,108,119,105,100,101],65296),([103,117,106,114],2790),([103,117,114,117],2662),([107,104,109,114],6112),([107,110,100,97],3302),([108,97,111,111],3792),([108,97,116,110],48),([109,97,116,104,115,97,110,98],120812),([109,108,121,109],3430),([109,111,110,103],6160),([109,121,109,114],4160),([111,114,121,97],2918),([116,97,109,108,100,101,99],3046),([116,101,108,117],3174),([116,104,97,105],3664),([116,105,98,116],3872)]
def zroE (p:List UInt8 × Int):Ent2:=⟨109,[.val (sB p.1)], .tup [.val (i p.2), .val (i 0)]⟩
def digE (p:List UInt8 × List (List UInt8)) (d:Nat):Ent2:=⟨62,[.val (sB p.1), .val (i d)], .tup [.val (sB (p.2.getD d [])), .val (i 0)]⟩
theorem lit_ent {B : Base} (hev : ∀ i x, B.A i = some x → i % 2 ≠ 1) {orc : CallT} (ho : CallOK B Tryz.prog orc) {f : Nat} {xs : List Value} {a b : Value} (hrun : (match callE B noTb orc f (xs.map .lit) {} with
      | some (x,_)=>matP 0 (.tup [.val a, .val b]) x
      | none=>false) = true):Ent2OK B Tryz.prog ⟨f,xs.map .val, .tup [.val a, .val b]⟩:=by
  have hb:∀ l:List Value,bldPs 0 (l.map .val) = (l.map .lit,0):=by
    intro l
    induction l with
    | nil=>rfl
    | cons x l ih=>simp only [List.map_cons,bldPs,bldP,ih]
  have hw:∀ l:List Value,WfPs B (l.map .val):=by
    intro l
    induction l with
    | nil=>trivial
    | cons x l ih=>exact ⟨trivial,ih⟩
  exact ent2_of hev (callE_ok noTb_ok ho) (hb xs) (hw xs) ⟨trivial,trivial,trivial⟩ hrun
section
variable {B:Base} (hev:∀ i x,B.A i = some x→i % 2 ≠ 1)
include hev
theorem zro0:Ent2OK B Tryz.prog (zroE ([97,114,97,98],1632)):=lit_ent hev noOrc_ok (xs:=[sB [97,114,97,98]]) (by kernel_rfl)
theorem zro1:Ent2OK B Tryz.prog (zroE ([97,114,97,98,101,120,116],1776)):=lit_ent hev noOrc_ok (xs:=[sB [97,114,97,98,101,120,116]]) (by kernel_rfl)
theorem zro2:Ent2OK B Tryz.prog (zroE ([98,101,110,103],2534)):=lit_ent hev noOrc_ok (xs:=[sB [98,101,110,103]]) (by kernel_rfl)
theorem zro3:Ent2OK B Tryz.prog (zroE ([100,101,118,97],2406)):=lit_ent hev noOrc_ok (xs:=[sB [100,101,118,97]]) (by kernel_rfl)
theorem zro4:Ent2OK B Tryz.prog (zroE ([102,117,108,108,119,105,100,101],65296)):=lit_ent hev noOrc_ok (xs:=[sB [102,117,108,108,119,105,100,101]]) (by kernel_rfl)
theorem zro5:Ent2OK B Tryz.prog (zroE ([103,117,106,114],2790)):=lit_ent hev noOrc_ok (xs:=[sB [103,117,106,114]]) (by kernel_rfl)
theorem zro6:Ent2OK B Tryz.prog (zroE ([103,117,114,117],2662)):=lit_ent hev noOrc_ok (xs:=[sB [103,117,114,117]]) (by kernel_rfl)
theorem zro7:Ent2OK B Tryz.prog (zroE ([107,104,109,114],6112)):=lit_ent hev noOrc_ok (xs:=[sB [107,104,109,114]]) (by kernel_rfl)
theorem zro8:Ent2OK B Tryz.prog (zroE ([107,110,100,97],3302)):=lit_ent hev noOrc_ok (xs:=[sB [107,110,100,97]]) (by kernel_rfl)
theorem zro9:Ent2OK B Tryz.prog (zroE ([108,97,111,111],3792)):=lit_ent hev noOrc_ok (xs:=[sB [108,97,111,111]]) (by kernel_rfl)
theorem zro10:Ent2OK B Tryz.prog (zroE ([108,97,116,110],48)):=lit_ent hev noOrc_ok (xs:=[sB [108,97,116,110]]) (by kernel_rfl)
theorem zro11:Ent2OK B Tryz.prog (zroE ([109,97,116,104,115,97,110,98],120812)):=lit_ent hev noOrc_ok (xs:=[sB [109,97,116,104,115,97,110,98]]) (by kernel_rfl)
theorem zro12:Ent2OK B Tryz.prog (zroE ([109,108,121,109],3430)):=lit_ent hev noOrc_ok (xs:=[sB [109,108,121,109]]) (by kernel_rfl)
theorem zro13:Ent2OK B Tryz.prog (zroE ([109,111,110,103],6160)):=lit_ent hev noOrc_ok (xs:=[sB [109,111,110,103]]) (by kernel_rfl)
theorem zro14:Ent2OK B Tryz.prog (zroE ([109,121,109,114],4160)):=lit_ent hev noOrc_ok (xs:=[sB [109,121,109,114]]) (by kernel_rfl)
theorem zro15:Ent2OK B Tryz.prog (zroE ([111,114,121,97],2918)):=lit_ent hev noOrc_ok (xs:=[sB [111,114,121,97]]) (by kernel_rfl)
theorem zro16:Ent2OK B Tryz.prog (zroE ([116,97,109,108,100,101,99],3046)):=lit_ent hev noOrc_ok (xs:=[sB [116,97,109,108,100,101,99]]) (by kernel_rfl)
theorem zro17:Ent2OK B Tryz.prog (zroE ([116,101,108,117],3174)):=lit_ent hev noOrc_ok (xs:=[sB [116,101,108,117]]) (by kernel_rfl)
theorem zro18:Ent2OK B Tryz.prog (zroE ([116,104,97,105],3664)):=lit_ent hev noOrc_ok (xs:=[sB [116,104,97,105]]) (by kernel_rfl)
theorem zro19:Ent2OK B Tryz.prog (zroE ([116,105,98,116],3872)):=lit_ent hev noOrc_ok (xs:=[sB [116,105,98,116]]) (by kernel_rfl)
theorem zro_all:∀ p ∈ zroT,Ent2OK B Tryz.prog (zroE p):=by
  unfold zroT
  simp only [List.forall_mem_cons]
  exact ⟨zro0 hev,zro1 hev,zro2 hev,zro3 hev,zro4 hev,zro5 hev,zro6 hev,zro7 hev,zro8 hev,zro9 hev,zro10 hev,zro11 hev,zro12 hev,zro13 hev,zro14 hev,zro15 hev,zro16 hev,zro17 hev,zro18 hev,zro19 hev,fun _ hx=>absurd hx List.not_mem_nil⟩
theorem zro_orc:CallOK B Tryz.prog (ent2A (zroT.map zroE)):=ent2_ok fun E hE=>by
  obtain ⟨p,hp,rfl⟩:=List.mem_map.1 hE
  exact zro_all hev p hp
theorem dig0:∀ d,d < 10→Ent2OK B Tryz.prog (digE (sysT.getD 0 ([],[])) d):=fun d hd=>match d,hd with
  | 0,_=>lit_ent hev (zro_orc hev) (xs:=[sB [97,114,97,98],i 0]) (by kernel_rfl)
  | 1,_=>lit_ent hev (zro_orc hev) (xs:=[sB [97,114,97,98],i 1]) (by kernel_rfl)
  | 2,_=>lit_ent hev (zro_orc hev) (xs:=[sB [97,114,97,98],i 2]) (by kernel_rfl)
  | 3,_=>lit_ent hev (zro_orc hev) (xs:=[sB [97,114,97,98],i 3]) (by kernel_rfl)
  | 4,_=>lit_ent hev (zro_orc hev) (xs:=[sB [97,114,97,98],i 4]) (by kernel_rfl)
  | 5,_=>lit_ent hev (zro_orc hev) (xs:=[sB [97,114,97,98],i 5]) (by kernel_rfl)
  | 6,_=>lit_ent hev (zro_orc hev) (xs:=[sB [97,114,97,98],i 6]) (by kernel_rfl)
  | 7,_=>lit_ent hev (zro_orc hev) (xs:=[sB [97,114,97,98],i 7]) (by kernel_rfl)
  | 8,_=>lit_ent hev (zro_orc hev) (xs:=[sB [97,114,97,98],i 8]) (by kernel_rfl)
  | 9,_=>lit_ent hev (zro_orc hev) (xs:=[sB [97,114,97,98],i 9]) (by kernel_rfl)
theorem dig1:∀ d,d < 10→Ent2OK B Tryz.prog (digE (sysT.getD 1 ([],[])) d):=fun d hd=>match d,hd with
  | 0,_=>lit_ent hev (zro_orc hev) (xs:=[sB [97,114,97,98,101,120,116],i 0]) (by kernel_rfl)
  | 1,_=>lit_ent hev (zro_orc hev) (xs:=[sB [97,114,97,98,101,120,116],i 1]) (by kernel_rfl)
  | 2,_=>lit_ent hev (zro_orc hev) (xs:=[sB [97,114,97,98,101,120,116],i 2]) (by kernel_rfl)
  | 3,_=>lit_ent hev (zro_orc hev) (xs:=[sB [97,114,97,98,101,120,116],i 3]) (by kernel_rfl)
  | 4,_=>lit_ent hev (zro_orc hev) (xs:=[sB [97,114,97,98,101,120,116],i 4]) (by kernel_rfl)
  | 5,_=>lit_ent hev (zro_orc hev) (xs:=[sB [97,114,97,98,101,120,116],i 5]) (by kernel_rfl)
  | 6,_=>lit_ent hev (zro_orc hev) (xs:=[sB [97,114,97,98,101,120,116],i 6]) (by kernel_rfl)
  | 7,_=>lit_ent hev (zro_orc hev) (xs:=[sB [97,114,97,98,101,120,116],i 7]) (by kernel_rfl)
  | 8,_=>lit_ent hev (zro_orc hev) (xs:=[sB [97,114,97,98,101,120,116],i 8]) (by kernel_rfl)
  | 9,_=>lit_ent hev (zro_orc hev) (xs:=[sB [97,114,97,98,101,120,116],i 9]) (by kernel_rfl)
theorem dig2:∀ d,d < 10→Ent2OK B Tryz.prog (digE (sysT.getD 2 ([],[])) d):=fun d hd=>match d,hd with
  | 0,_=>lit_ent hev (zro_orc hev) (xs:=[sB [98,101,110,103],i 0]) (by kernel_rfl)
  | 1,_=>lit_ent hev (zro_orc hev) (xs:=[sB [98,101,110,103],i 1]) (by kernel_rfl)
  | 2,_=>lit_ent hev (zro_orc hev) (xs:=[sB [98,101,110,103],i 2]) (by kernel_rfl)
  | 3,_=>lit_ent hev (zro_orc hev) (xs:=[sB [98,101,110,103],i 3]) (by kernel_rfl)
  | 4,_=>lit_ent hev (zro_orc hev) (xs:=[sB [98,101,110,103],i 4]) (by kernel_rfl)
  | 5,_=>lit_ent hev (zro_orc hev) (xs:=[sB [98,101,110,103],i 5]) (by kernel_rfl)
  | 6,_=>lit_ent hev (zro_orc hev) (xs:=[sB [98,101,110,103],i 6]) (by kernel_rfl)
  | 7,_=>lit_ent hev (zro_orc hev) (xs:=[sB [98,101,110,103],i 7]) (by kernel_rfl)
  | 8,_=>lit_ent hev (zro_orc hev) (xs:=[sB [98,101,110,103],i 8]) (by kernel_rfl)
  | 9,_=>lit_ent hev (zro_orc hev) (xs:=[sB [98,101,110,103],i 9]) (by kernel_rfl)
theorem dig3:∀ d,d < 10→Ent2OK B Tryz.prog (digE (sysT.getD 3 ([],[])) d):=fun d hd=>match d,hd with
  | 0,_=>lit_ent hev (zro_orc hev) (xs:=[sB [100,101,118,97],i 0]) (by kernel_rfl)
  | 1,_=>lit_ent hev (zro_orc hev) (xs:=[sB [100,101,118,97],i 1]) (by kernel_rfl)
  | 2,_=>lit_ent hev (zro_orc hev) (xs:=[sB [100,101,118,97],i 2]) (by kernel_rfl)
  | 3,_=>lit_ent hev (zro_orc hev) (xs:=[sB [100,101,118,97],i 3]) (by kernel_rfl)
  | 4,_=>lit_ent hev (zro_orc hev) (xs:=[sB [100,101,118,97],i 4]) (by kernel_rfl)
  | 5,_=>lit_ent hev (zro_orc hev) (xs:=[sB [100,101,118,97],i 5]) (by kernel_rfl)
  | 6,_=>lit_ent hev (zro_orc hev) (xs:=[sB [100,101,118,97],i 6]) (by kernel_rfl)
  | 7,_=>lit_ent hev (zro_orc hev) (xs:=[sB [100,101,118,97],i 7]) (by kernel_rfl)
  | 8,_=>lit_ent hev (zro_orc hev) (xs:=[sB [100,101,118,97],i 8]) (by kernel_rfl)
  | 9,_=>lit_ent hev (zro_orc hev) (xs:=[sB [100,101,118,97],i 9]) (by kernel_rfl)
theorem dig4:∀ d,d < 10→Ent2OK B Tryz.prog (digE (sysT.getD 4 ([],[])) d):=fun d hd=>match d,hd with
  | 0,_=>lit_ent hev (zro_orc hev) (xs:=[sB [102,117,108,108,119,105,100,101],i 0]) (by kernel_rfl)
  | 1,_=>lit_ent hev (zro_orc hev) (xs:=[sB [102,117,108,108,119,105,100,101],i 1]) (by kernel_rfl)
  | 2,_=>lit_ent hev (zro_orc hev) (xs:=[sB [102,117,108,108,119,105,100,101],i 2]) (by kernel_rfl)
  | 3,_=>lit_ent hev (zro_orc hev) (xs:=[sB [102,117,108,108,119,105,100,101],i 3]) (by kernel_rfl)
  | 4,_=>lit_ent hev (zro_orc hev) (xs:=[sB [102,117,108,108,119,105,100,101],i 4]) (by kernel_rfl)
  | 5,_=>lit_ent hev (zro_orc hev) (xs:=[sB [102,117,108,108,119,105,100,101],i 5]) (by kernel_rfl)
  | 6,_=>lit_ent hev (zro_orc hev) (xs:=[sB [102,117,108,108,119,105,100,101],i 6]) (by kernel_rfl)
  | 7,_=>lit_ent hev (zro_orc hev) (xs:=[sB [102,117,108,108,119,105,100,101],i 7]) (by kernel_rfl)
  | 8,_=>lit_ent hev (zro_orc hev) (xs:=[sB [102,117,108,108,119,105,100,101],i 8]) (by kernel_rfl)
  | 9,_=>lit_ent hev (zro_orc hev) (xs:=[sB [102,117,108,108,119,105,100,101],i 9]) (by kernel_rfl)
theorem dig5:∀ d,d < 10→Ent2OK B Tryz.prog (digE (sysT.getD 5 ([],[])) d):=fun d hd=>match d,hd with
  | 0,_=>lit_ent hev (zro_orc hev) (xs:=[sB [103,117,106,114],i 0]) (by kernel_rfl)
  | 1,_=>lit_ent hev (zro_orc hev) (xs:=[sB [103,117,106,114],i 1]) (by kernel_rfl)
  | 2,_=>lit_ent hev (zro_orc hev) (xs:=[sB [103,117,106,114],i 2]) (by kernel_rfl)
  | 3,_=>lit_ent hev (zro_orc hev) (xs:=[sB [103,117,106,114],i 3]) (by kernel_rfl)
  | 4,_=>lit_ent hev (zro_orc hev) (xs:=[sB [103,117,106,114],i 4]) (by kernel_rfl)
  | 5,_=>lit_ent hev (zro_orc hev) (xs:=[sB [103,117,106,114],i 5]) (by kernel_rfl)
  | 6,_=>lit_ent hev (zro_orc hev) (xs:=[sB [103,117,106,114],i 6]) (by kernel_rfl)
  | 7,_=>lit_ent hev (zro_orc hev) (xs:=[sB [103,117,106,114],i 7]) (by kernel_rfl)
  | 8,_=>lit_ent hev (zro_orc hev) (xs:=[sB [103,117,106,114],i 8]) (by kernel_rfl)
  | 9,_=>lit_ent hev (zro_orc hev) (xs:=[sB [103,117,106,114],i 9]) (by kernel_rfl)
theorem dig6:∀ d,d < 10→Ent2OK B Tryz.prog (digE (sysT.getD 6 ([],[])) d):=fun d hd=>match d,hd with
  | 0,_=>lit_ent hev (zro_orc hev) (xs:=[sB [103,117,114,117],i 0]) (by kernel_rfl)
  | 1,_=>lit_ent hev (zro_orc hev) (xs:=[sB [103,117,114,117],i 1]) (by kernel_rfl)
  | 2,_=>lit_ent hev (zro_orc hev) (xs:=[sB [103,117,114,117],i 2]) (by kernel_rfl)
  | 3,_=>lit_ent hev (zro_orc hev) (xs:=[sB [103,117,114,117],i 3]) (by kernel_rfl)
  | 4,_=>lit_ent hev (zro_orc hev) (xs:=[sB [103,117,114,117],i 4]) (by kernel_rfl)
  | 5,_=>lit_ent hev (zro_orc hev) (xs:=[sB [103,117,114,117],i 5]) (by kernel_rfl)
  | 6,_=>lit_ent hev (zro_orc hev) (xs:=[sB [103,117,114,117],i 6]) (by kernel_rfl)
  | 7,_=>lit_ent hev (zro_orc hev) (xs:=[sB [103,117,114,117],i 7]) (by kernel_rfl)
  | 8,_=>lit_ent hev (zro_orc hev) (xs:=[sB [103,117,114,117],i 8]) (by kernel_rfl)
  | 9,_=>lit_ent hev (zro_orc hev) (xs:=[sB [103,117,114,117],i 9]) (by kernel_rfl)
theorem dig7:∀ d,d < 10→Ent2OK B Tryz.prog (digE (sysT.getD 7 ([],[])) d):=fun d hd=>match d,hd with
  | 0,_=>lit_ent hev (zro_orc hev) (xs:=[sB [107,104,109,114],i 0]) (by kernel_rfl)
  | 1,_=>lit_ent hev (zro_orc hev) (xs:=[sB [107,104,109,114],i 1]) (by kernel_rfl)
  | 2,_=>lit_ent hev (zro_orc hev) (xs:=[sB [107,104,109,114],i 2]) (by kernel_rfl)
  | 3,_=>lit_ent hev (zro_orc hev) (xs:=[sB [107,104,109,114],i 3]) (by kernel_rfl)
  | 4,_=>lit_ent hev (zro_orc hev) (xs:=[sB [107,104,109,114],i 4]) (by kernel_rfl)
  | 5,_=>lit_ent hev (zro_orc hev) (xs:=[sB [107,104,109,114],i 5]) (by kernel_rfl)
  | 6,_=>lit_ent hev (zro_orc hev) (xs:=[sB [107,104,109,114],i 6]) (by kernel_rfl)
  | 7,_=>lit_ent hev (zro_orc hev) (xs:=[sB [107,104,109,114],i 7]) (by kernel_rfl)
  | 8,_=>lit_ent hev (zro_orc hev) (xs:=[sB [107,104,109,114],i 8]) (by kernel_rfl)
  | 9,_=>lit_ent hev (zro_orc hev) (xs:=[sB [107,104,109,114],i 9]) (by kernel_rfl)
theorem dig8:∀ d,d < 10→Ent2OK B Tryz.prog (digE (sysT.getD 8 ([],[])) d):=fun d hd=>match d,hd with
  | 0,_=>lit_ent hev (zro_orc hev) (xs:=[sB [107,110,100,97],i 0]) (by kernel_rfl)
  | 1,_=>lit_ent hev (zro_orc hev) (xs:=[sB [107,110,100,97],i 1]) (by kernel_rfl)
  | 2,_=>lit_ent hev (zro_orc hev) (xs:=[sB [107,110,100,97],i 2]) (by kernel_rfl)
  | 3,_=>lit_ent hev (zro_orc hev) (xs:=[sB [107,110,100,97],i 3]) (by kernel_rfl)
  | 4,_=>lit_ent hev (zro_orc hev) (xs:=[sB [107,110,100,97],i 4]) (by kernel_rfl)
  | 5,_=>lit_ent hev (zro_orc hev) (xs:=[sB [107,110,100,97],i 5]) (by kernel_rfl)
  | 6,_=>lit_ent hev (zro_orc hev) (xs:=[sB [107,110,100,97],i 6]) (by kernel_rfl)
  | 7,_=>lit_ent hev (zro_orc hev) (xs:=[sB [107,110,100,97],i 7]) (by kernel_rfl)
  | 8,_=>lit_ent hev (zro_orc hev) (xs:=[sB [107,110,100,97],i 8]) (by kernel_rfl)
  | 9,_=>lit_ent hev (zro_orc hev) (xs:=[sB [107,110,100,97],i 9]) (by kernel_rfl)
theorem dig9:∀ d,d < 10→Ent2OK B Tryz.prog (digE (sysT.getD 9 ([],[])) d):=fun d hd=>match d,hd with
  | 0,_=>lit_ent hev (zro_orc hev) (xs:=[sB [108,97,111,111],i 0]) (by kernel_rfl)
  | 1,_=>lit_ent hev (zro_orc hev) (xs:=[sB [108,97,111,111],i 1]) (by kernel_rfl)
  | 2,_=>lit_ent hev (zro_orc hev) (xs:=[sB [108,97,111,111],i 2]) (by kernel_rfl)
  | 3,_=>lit_ent hev (zro_orc hev) (xs:=[sB [108,97,111,111],i 3]) (by kernel_rfl)
  | 4,_=>lit_ent hev (zro_orc hev) (xs:=[sB [108,97,111,111],i 4]) (by kernel_rfl)
  | 5,_=>lit_ent hev (zro_orc hev) (xs:=[sB [108,97,111,111],i 5]) (by kernel_rfl)
  | 6,_=>lit_ent hev (zro_orc hev) (xs:=[sB [108,97,111,111],i 6]) (by kernel_rfl)
  | 7,_=>lit_ent hev (zro_orc hev) (xs:=[sB [108,97,111,111],i 7]) (by kernel_rfl)
  | 8,_=>lit_ent hev (zro_orc hev) (xs:=[sB [108,97,111,111],i 8]) (by kernel_rfl)
  | 9,_=>lit_ent hev (zro_orc hev) (xs:=[sB [108,97,111,111],i 9]) (by kernel_rfl)
theorem dig10:∀ d,d < 10→Ent2OK B Tryz.prog (digE (sysT.getD 10 ([],[])) d):=fun d hd=>match d,hd with
  | 0,_=>lit_ent hev (zro_orc hev) (xs:=[sB [108,97,116,110],i 0]) (by kernel_rfl)
  | 1,_=>lit_ent hev (zro_orc hev) (xs:=[sB [108,97,116,110],i 1]) (by kernel_rfl)
  | 2,_=>lit_ent hev (zro_orc hev) (xs:=[sB [108,97,116,110],i 2]) (by kernel_rfl)
  | 3,_=>lit_ent hev (zro_orc hev) (xs:=[sB [108,97,116,110],i 3]) (by kernel_rfl)
  | 4,_=>lit_ent hev (zro_orc hev) (xs:=[sB [108,97,116,110],i 4]) (by kernel_rfl)
  | 5,_=>lit_ent hev (zro_orc hev) (xs:=[sB [108,97,116,110],i 5]) (by kernel_rfl)
  | 6,_=>lit_ent hev (zro_orc hev) (xs:=[sB [108,97,116,110],i 6]) (by kernel_rfl)
  | 7,_=>lit_ent hev (zro_orc hev) (xs:=[sB [108,97,116,110],i 7]) (by kernel_rfl)
  | 8,_=>lit_ent hev (zro_orc hev) (xs:=[sB [108,97,116,110],i 8]) (by kernel_rfl)
  | 9,_=>lit_ent hev (zro_orc hev) (xs:=[sB [108,97,116,110],i 9]) (by kernel_rfl)
theorem dig11:∀ d,d < 10→Ent2OK B Tryz.prog (digE (sysT.getD 11 ([],[])) d):=fun d hd=>match d,hd with
  | 0,_=>lit_ent hev (zro_orc hev) (xs:=[sB [109,97,116,104,115,97,110,98],i 0]) (by kernel_rfl)
  | 1,_=>lit_ent hev (zro_orc hev) (xs:=[sB [109,97,116,104,115,97,110,98],i 1]) (by kernel_rfl)
  | 2,_=>lit_ent hev (zro_orc hev) (xs:=[sB [109,97,116,104,115,97,110,98],i 2]) (by kernel_rfl)
  | 3,_=>lit_ent hev (zro_orc hev) (xs:=[sB [109,97,116,104,115,97,110,98],i 3]) (by kernel_rfl)
  | 4,_=>lit_ent hev (zro_orc hev) (xs:=[sB [109,97,116,104,115,97,110,98],i 4]) (by kernel_rfl)
  | 5,_=>lit_ent hev (zro_orc hev) (xs:=[sB [109,97,116,104,115,97,110,98],i 5]) (by kernel_rfl)
  | 6,_=>lit_ent hev (zro_orc hev) (xs:=[sB [109,97,116,104,115,97,110,98],i 6]) (by kernel_rfl)
  | 7,_=>lit_ent hev (zro_orc hev) (xs:=[sB [109,97,116,104,115,97,110,98],i 7]) (by kernel_rfl)
  | 8,_=>lit_ent hev (zro_orc hev) (xs:=[sB [109,97,116,104,115,97,110,98],i 8]) (by kernel_rfl)
  | 9,_=>lit_ent hev (zro_orc hev) (xs:=[sB [109,97,116,104,115,97,110,98],i 9]) (by kernel_rfl)
theorem dig12:∀ d,d < 10→Ent2OK B Tryz.prog (digE (sysT.getD 12 ([],[])) d):=fun d hd=>match d,hd with
  | 0,_=>lit_ent hev (zro_orc hev) (xs:=[sB [109,108,121,109],i 0]) (by kernel_rfl)
  | 1,_=>lit_ent hev (zro_orc hev) (xs:=[sB [109,108,121,109],i 1]) (by kernel_rfl)
  | 2,_=>lit_ent hev (zro_orc hev) (xs:=[sB [109,108,121,109],i 2]) (by kernel_rfl)
  | 3,_=>lit_ent hev (zro_orc hev) (xs:=[sB [109,108,121,109],i 3]) (by kernel_rfl)
  | 4,_=>lit_ent hev (zro_orc hev) (xs:=[sB [109,108,121,109],i 4]) (by kernel_rfl)
  | 5,_=>lit_ent hev (zro_orc hev) (xs:=[sB [109,108,121,109],i 5]) (by kernel_rfl)
  | 6,_=>lit_ent hev (zro_orc hev) (xs:=[sB [109,108,121,109],i 6]) (by kernel_rfl)
  | 7,_=>lit_ent hev (zro_orc hev) (xs:=[sB [109,108,121,109],i 7]) (by kernel_rfl)
  | 8,_=>lit_ent hev (zro_orc hev) (xs:=[sB [109,108,121,109],i 8]) (by kernel_rfl)
  | 9,_=>lit_ent hev (zro_orc hev) (xs:=[sB [109,108,121,109],i 9]) (by kernel_rfl)
theorem dig13:∀ d,d < 10→Ent2OK B Tryz.prog (digE (sysT.getD 13 ([],[])) d):=fun d hd=>match d,hd with
  | 0,_=>lit_ent hev (zro_orc hev) (xs:=[sB [109,111,110,103],i 0]) (by kernel_rfl)
  | 1,_=>lit_ent hev (zro_orc hev) (xs:=[sB [109,111,110,103],i 1]) (by kernel_rfl)
  | 2,_=>lit_ent hev (zro_orc hev) (xs:=[sB [109,111,110,103],i 2]) (by kernel_rfl)
  | 3,_=>lit_ent hev (zro_orc hev) (xs:=[sB [109,111,110,103],i 3]) (by kernel_rfl)
  | 4,_=>lit_ent hev (zro_orc hev) (xs:=[sB [109,111,110,103],i 4]) (by kernel_rfl)
  | 5,_=>lit_ent hev (zro_orc hev) (xs:=[sB [109,111,110,103],i 5]) (by kernel_rfl)
  | 6,_=>lit_ent hev (zro_orc hev) (xs:=[sB [109,111,110,103],i 6]) (by kernel_rfl)
  | 7,_=>lit_ent hev (zro_orc hev) (xs:=[sB [109,111,110,103],i 7]) (by kernel_rfl)
  | 8,_=>lit_ent hev (zro_orc hev) (xs:=[sB [109,111,110,103],i 8]) (by kernel_rfl)
  | 9,_=>lit_ent hev (zro_orc hev) (xs:=[sB [109,111,110,103],i 9]) (by kernel_rfl)
theorem dig14:∀ d,d < 10→Ent2OK B Tryz.prog (digE (sysT.getD 14 ([],[])) d):=fun d hd=>match d,hd with
  | 0,_=>lit_ent hev (zro_orc hev) (xs:=[sB [109,121,109,114],i 0]) (by kernel_rfl)
  | 1,_=>lit_ent hev (zro_orc hev) (xs:=[sB [109,121,109,114],i 1]) (by kernel_rfl)
  | 2,_=>lit_ent hev (zro_orc hev) (xs:=[sB [109,121,109,114],i 2]) (by kernel_rfl)
  | 3,_=>lit_ent hev (zro_orc hev) (xs:=[sB [109,121,109,114],i 3]) (by kernel_rfl)
  | 4,_=>lit_ent hev (zro_orc hev) (xs:=[sB [109,121,109,114],i 4]) (by kernel_rfl)
  | 5,_=>lit_ent hev (zro_orc hev) (xs:=[sB [109,121,109,114],i 5]) (by kernel_rfl)
  | 6,_=>lit_ent hev (zro_orc hev) (xs:=[sB [109,121,109,114],i 6]) (by kernel_rfl)
  | 7,_=>lit_ent hev (zro_orc hev) (xs:=[sB [109,121,109,114],i 7]) (by kernel_rfl)
  | 8,_=>lit_ent hev (zro_orc hev) (xs:=[sB [109,121,109,114],i 8]) (by kernel_rfl)
  | 9,_=>lit_ent hev (zro_orc hev) (xs:=[sB [109,121,109,114],i 9]) (by kernel_rfl)
theorem dig15:∀ d,d < 10→Ent2OK B Tryz.prog (digE (sysT.getD 15 ([],[])) d):=fun d hd=>match d,hd with
  | 0,_=>lit_ent hev (zro_orc hev) (xs:=[sB [111,114,121,97],i 0]) (by kernel_rfl)
  | 1,_=>lit_ent hev (zro_orc hev) (xs:=[sB [111,114,121,97],i 1]) (by kernel_rfl)
  | 2,_=>lit_ent hev (zro_orc hev) (xs:=[sB [111,114,121,97],i 2]) (by kernel_rfl)
  | 3,_=>lit_ent hev (zro_orc hev) (xs:=[sB [111,114,121,97],i 3]) (by kernel_rfl)
  | 4,_=>lit_ent hev (zro_orc hev) (xs:=[sB [111,114,121,97],i 4]) (by kernel_rfl)
  | 5,_=>lit_ent hev (zro_orc hev) (xs:=[sB [111,114,121,97],i 5]) (by kernel_rfl)
  | 6,_=>lit_ent hev (zro_orc hev) (xs:=[sB [111,114,121,97],i 6]) (by kernel_rfl)
  | 7,_=>lit_ent hev (zro_orc hev) (xs:=[sB [111,114,121,97],i 7]) (by kernel_rfl)
  | 8,_=>lit_ent hev (zro_orc hev) (xs:=[sB [111,114,121,97],i 8]) (by kernel_rfl)
  | 9,_=>lit_ent hev (zro_orc hev) (xs:=[sB [111,114,121,97],i 9]) (by kernel_rfl)
theorem dig16:∀ d,d < 10→Ent2OK B Tryz.prog (digE (sysT.getD 16 ([],[])) d):=fun d hd=>match d,hd with
  | 0,_=>lit_ent hev (zro_orc hev) (xs:=[sB [116,97,109,108,100,101,99],i 0]) (by kernel_rfl)
  | 1,_=>lit_ent hev (zro_orc hev) (xs:=[sB [116,97,109,108,100,101,99],i 1]) (by kernel_rfl)
  | 2,_=>lit_ent hev (zro_orc hev) (xs:=[sB [116,97,109,108,100,101,99],i 2]) (by kernel_rfl)
  | 3,_=>lit_ent hev (zro_orc hev) (xs:=[sB [116,97,109,108,100,101,99],i 3]) (by kernel_rfl)
  | 4,_=>lit_ent hev (zro_orc hev) (xs:=[sB [116,97,109,108,100,101,99],i 4]) (by kernel_rfl)
  | 5,_=>lit_ent hev (zro_orc hev) (xs:=[sB [116,97,109,108,100,101,99],i 5]) (by kernel_rfl)
  | 6,_=>lit_ent hev (zro_orc hev) (xs:=[sB [116,97,109,108,100,101,99],i 6]) (by kernel_rfl)
  | 7,_=>lit_ent hev (zro_orc hev) (xs:=[sB [116,97,109,108,100,101,99],i 7]) (by kernel_rfl)
  | 8,_=>lit_ent hev (zro_orc hev) (xs:=[sB [116,97,109,108,100,101,99],i 8]) (by kernel_rfl)
  | 9,_=>lit_ent hev (zro_orc hev) (xs:=[sB [116,97,109,108,100,101,99],i 9]) (by kernel_rfl)
theorem dig17:∀ d,d < 10→Ent2OK B Tryz.prog (digE (sysT.getD 17 ([],[])) d):=fun d hd=>match d,hd with
  | 0,_=>lit_ent hev (zro_orc hev) (xs:=[sB [116,101,108,117],i 0]) (by kernel_rfl)
  | 1,_=>lit_ent hev (zro_orc hev) (xs:=[sB [116,101,108,117],i 1]) (by kernel_rfl)
  | 2,_=>lit_ent hev (zro_orc hev) (xs:=[sB [116,101,108,117],i 2]) (by kernel_rfl)
  | 3,_=>lit_ent hev (zro_orc hev) (xs:=[sB [116,101,108,117],i 3]) (by kernel_rfl)
  | 4,_=>lit_ent hev (zro_orc hev) (xs:=[sB [116,101,108,117],i 4]) (by kernel_rfl)
  | 5,_=>lit_ent hev (zro_orc hev) (xs:=[sB [116,101,108,117],i 5]) (by kernel_rfl)
  | 6,_=>lit_ent hev (zro_orc hev) (xs:=[sB [116,101,108,117],i 6]) (by kernel_rfl)
  | 7,_=>lit_ent hev (zro_orc hev) (xs:=[sB [116,101,108,117],i 7]) (by kernel_rfl)
  | 8,_=>lit_ent hev (zro_orc hev) (xs:=[sB [116,101,108,117],i 8]) (by kernel_rfl)
  | 9,_=>lit_ent hev (zro_orc hev) (xs:=[sB [116,101,108,117],i 9]) (by kernel_rfl)
theorem dig18:∀ d,d < 10→Ent2OK B Tryz.prog (digE (sysT.getD 18 ([],[])) d):=fun d hd=>match d,hd with
  | 0,_=>lit_ent hev (zro_orc hev) (xs:=[sB [116,104,97,105],i 0]) (by kernel_rfl)
  | 1,_=>lit_ent hev (zro_orc hev) (xs:=[sB [116,104,97,105],i 1]) (by kernel_rfl)
  | 2,_=>lit_ent hev (zro_orc hev) (xs:=[sB [116,104,97,105],i 2]) (by kernel_rfl)
  | 3,_=>lit_ent hev (zro_orc hev) (xs:=[sB [116,104,97,105],i 3]) (by kernel_rfl)
  | 4,_=>lit_ent hev (zro_orc hev) (xs:=[sB [116,104,97,105],i 4]) (by kernel_rfl)
  | 5,_=>lit_ent hev (zro_orc hev) (xs:=[sB [116,104,97,105],i 5]) (by kernel_rfl)
  | 6,_=>lit_ent hev (zro_orc hev) (xs:=[sB [116,104,97,105],i 6]) (by kernel_rfl)
  | 7,_=>lit_ent hev (zro_orc hev) (xs:=[sB [116,104,97,105],i 7]) (by kernel_rfl)
  | 8,_=>lit_ent hev (zro_orc hev) (xs:=[sB [116,104,97,105],i 8]) (by kernel_rfl)
  | 9,_=>lit_ent hev (zro_orc hev) (xs:=[sB [116,104,97,105],i 9]) (by kernel_rfl)
theorem dig19:∀ d,d < 10→Ent2OK B Tryz.prog (digE (sysT.getD 19 ([],[])) d):=fun d hd=>match d,hd with
  | 0,_=>lit_ent hev (zro_orc hev) (xs:=[sB [116,105,98,116],i 0]) (by kernel_rfl)
  | 1,_=>lit_ent hev (zro_orc hev) (xs:=[sB [116,105,98,116],i 1]) (by kernel_rfl)
  | 2,_=>lit_ent hev (zro_orc hev) (xs:=[sB [116,105,98,116],i 2]) (by kernel_rfl)
  | 3,_=>lit_ent hev (zro_orc hev) (xs:=[sB [116,105,98,116],i 3]) (by kernel_rfl)
  | 4,_=>lit_ent hev (zro_orc hev) (xs:=[sB [116,105,98,116],i 4]) (by kernel_rfl)
  | 5,_=>lit_ent hev (zro_orc hev) (xs:=[sB [116,105,98,116],i 5]) (by kernel_rfl)
  | 6,_=>lit_ent hev (zro_orc hev) (xs:=[sB [116,105,98,116],i 6]) (by kernel_rfl)
  | 7,_=>lit_ent hev (zro_orc hev) (xs:=[sB [116,105,98,116],i 7]) (by kernel_rfl)
  | 8,_=>lit_ent hev (zro_orc hev) (xs:=[sB [116,105,98,116],i 8]) (by kernel_rfl)
  | 9,_=>lit_ent hev (zro_orc hev) (xs:=[sB [116,105,98,116],i 9]) (by kernel_rfl)
theorem dig_all:∀ s,s < 20→∀ d,d < 10→Ent2OK B Tryz.prog (digE (sysT.getD s ([],[])) d):=fun s hs=>match s,hs with
  | 0,_=>dig0 hev
  | 1,_=>dig1 hev
  | 2,_=>dig2 hev
  | 3,_=>dig3 hev
  | 4,_=>dig4 hev
  | 5,_=>dig5 hev
  | 6,_=>dig6 hev
  | 7,_=>dig7 hev
  | 8,_=>dig8 hev
  | 9,_=>dig9 hev
  | 10,_=>dig10 hev
  | 11,_=>dig11 hev
  | 12,_=>dig12 hev
  | 13,_=>dig13 hev
  | 14,_=>dig14 hev
  | 15,_=>dig15 hev
  | 16,_=>dig16 hev
  | 17,_=>dig17 hev
  | 18,_=>dig18 hev
  | 19,_=>dig19 hev
  | n + 20,h=>absurd h (by omega)
end
end Go.Sym
end
section
namespace Go.Proofs.YteiomfgehlojeaaGreatDoor
open Go.RowKit
theorem ret_int {k:IntKind} {a b:Int} (h:a = b):Ending.returned (.int k a) = .returned (.int k b):=by rw [h]
theorem ret_bool {a b:Bool} (h:a = b):Ending.returned (.bool a) = .returned (.bool b):=by rw [h]
def Aside (p:Prop):Prop:=p
theorem Aside.out {p:Prop} (h:Aside p):p:=h
theorem aside {p:Prop} (h:p):Aside p:=h
def ints (l:List Int):List Value:=l.map (Value.int .i64)
theorem ints_length (l:List Int):(ints l).length = l.length:=by simp [ints]
theorem ints_append (a b:List Int):ints (a ++ b) = ints a ++ ints b:=by simp [ints]
theorem ints_one (l:List Int):∀ u ∈ ints l,u.oneCell' = true:=ints_oneCell .i64 l
theorem ints_get (l:List Int) (j:Nat) (h:j < l.length):(ints l)[j]? = some (.int .i64 (l.getD j 0)):=by
  simp [ints,h]
theorem own_base {w:World} {B B':Nat} {e:TypeId} {size:Nat} {v:Value} {n:Nat} {xs:List Value} (h:w.ownsRow B e size v n xs) (hB:B' ≤ B):w.ownsRow B' e size v n xs:=by
  obtain ⟨h1,h2⟩:=h
  refine ⟨h1,?_⟩
  rcases h2 with h2 | ⟨g,cap,cur,a,b,c⟩
  · exact .inl h2
  · exact .inr ⟨g,cap,cur,a,by omega,c⟩
theorem own_drewN {w:World} {B:Nat} {e:TypeId} {size:Nat} {v:Value} {n:Nat} {xs:List Value} (h:w.ownsRow B e size v n xs) (k:Nat):(w.drewN k).ownsRow B e size v n xs:=h
def IsInts (w:World) (v:Value) (l:List Int):Prop :=
  ∃ A c,v = .slice A l.length c∧l.length ≤ c∧c ≤ 9223372036854775807∧(0 < l.length→∃ b off,A = some ⟨b,off,none⟩∧∀ j,j < l.length→w.cell? ⟨b,off + j,none⟩ = some (.int .i64 (l.getD j 0)))
theorem IsInts.nil_ (w:World) (A:Option Addr) (c:Nat) (hc:c ≤ 9223372036854775807):IsInts w (.slice A 0 c) []:=⟨A,c,rfl,Nat.zero_le _,hc,fun h=>absurd h (by simp)⟩
theorem IsInts.keep {w w':World} {v:Value} {l:List Int} (h:IsInts w v l) (hk:∀ b o,b < w.heap.size→w'.cell? ⟨b,o,none⟩ = w.cell? ⟨b,o,none⟩):IsInts w' v l:=by
  obtain ⟨A,c,rfl,h0,h1,h2⟩:=h
  refine ⟨A,c,rfl,h0,h1,fun hp=>?_⟩
  obtain ⟨b,off,rfl,hc⟩:=h2 hp
  refine ⟨b,off,rfl,fun j hj=>?_⟩
  have hlt:=World.block_lt_of_cell? w _ (hc j hj)
  rw [hk b _ hlt]
  exact hc j hj
theorem IsInts.below {w w':World} {v:Value} {l:List Int} {B:Nat} (h:IsInts w v l) (hb:Below B w w') (hB:w.heap.size ≤ B):IsInts w' v l :=
  h.keep fun b o hlt=>hb.cell (p:=⟨b,o,none⟩) (by show b < B; omega)
theorem IsInts.drewN {w:World} {v:Value} {l:List Int} (h:IsInts w v l) (n:Nat):IsInts (w.drewN n) v l:=h
theorem IsInts.alloc {w:World} {v:Value} {l:List Int} (h:IsInts w v l) (o:Obj):IsInts (w.alloc o) v l :=
  h.keep fun b off hlt=>World.cell?_alloc_lt w o ⟨b,off,none⟩ hlt
theorem IsInts.of_own {w:World} {B:Nat} {e:TypeId} {v:Value} {l:List Int} (h:w.ownsRow B e 1 v l.length (ints l)):IsInts w v l:=by
  rcases h.2 with ⟨rfl,h0⟩ | ⟨g,cap,cur,rfl,_,_,hnc,hcm,_⟩
  · have:l = []:=List.eq_nil_of_length_eq_zero h0
    subst this
    exact IsInts.nil_ _ _ _ (by omega)
  · refine ⟨_,cap,rfl,hnc,hcm,fun _=>⟨g,0,rfl,fun j hj=>?_⟩⟩
    have:=h.cellAt j (by omega)
    rw [Nat.zero_add,this,ints_get l j hj]
theorem IsInts.take_ {w:World} {A:Option Addr} {n c:Nat} {l:List Int} (h:IsInts w (.slice A n c) l) (k:Nat) (hk:k ≤ l.length):IsInts w (.slice A k c) (l.take k):=by
  obtain ⟨A',c1,he,h0,h1,h2⟩:=h
  injection he with e1 e3 e4
  subst e1; subst e4
  have hl:(l.take k).length = k:=by simp; omega
  refine ⟨A,c,by rw [hl],by omega,h1,fun hp=>?_⟩
  obtain ⟨b,off,rfl,hc⟩:=h2 (by omega)
  refine ⟨b,off,rfl,fun j hj=>?_⟩
  rw [hc j (by omega)]
  have:(l.take k).getD j 0 = l.getD j 0:=by
    simp only [List.getD_eq_getElem?_getD,List.getElem?_take]
    rw [if_pos (by omega)]
  rw [this]
theorem isInts_of_cells {w:World} {a:Addr} {n c:Nat} {zs:List Int} (hn:n ≤ c) (hc:c ≤ 9223372036854775807) (hz:zs.length = c) (hcell:∀ i,i < zs.length→w.cell? (a.add i) = some (.int .i64 (zs.getD i 0))):IsInts w (.slice (some a) n c) (zs.take n):=by
  have hl:(zs.take n).length = n:=by simp; omega
  refine ⟨some a,c,by rw [hl],by omega,hc,fun hp=>?_⟩
  obtain ⟨ab,ao,spot⟩:=a
  have hspot:spot = none:=by simpa [Addr.add] using World.cell?_spot (hcell 0 (by omega))
  subst hspot
  refine ⟨ab,ao,rfl,fun j hj=>?_⟩
  have h1:=hcell j (by omega)
  have h2:(zs.take n).getD j 0 = zs.getD j 0:=by
    simp only [List.getD_eq_getElem?_getD,List.getElem?_take]
    rw [if_pos (by omega)]
  rw [h2,← h1]
  unfold Addr.add
  split
  · rename_i h; subst h; rfl
  · rfl
end Go.Proofs.YteiomfgehlojeaaGreatDoor
end
section
namespace Go.Proofs.YteiomfgehlojeaaGreatDoor
open Go.RowKit
def aroundI (n m:Int):Int:=(if n < 0 then -(n + 1) else n) % m
theorem aroundI_bd (n m:Int) (hm:1 ≤ m):0 ≤ aroundI n m∧aroundI n m < m:=by
  unfold aroundI
  exact ⟨Int.emod_nonneg _ (by omega),Int.emod_lt_of_pos _ (by omega)⟩
set_option maxHeartbeats 400000 in
theorem around_any (n m:Int) (w:World) (h0:-9223372036854775808 ≤ n) (h1:n ≤ 9223372036854775807) (hm:1 ≤ m) (hm2:m ≤ 9223372036854775807) :
    Calls Tryz.prog 12 #[.int .i64 n, .int .i64 m] w fun e w'=>e = .returned (.int .i64 (aroundI n m))∧w = w':=by
  by_cases hn:n < 0
  · have H:=Lib.hid (show aroundI n m = (-(n + 1)) % m by unfold aroundI; rw [if_pos hn])
    have hnn:0 ≤ -(n + 1):=by omega
    go_enter Tryz.func12,Tryz.ntmps12
    go_wp2
    go_ret
    exact ⟨ret_int (by rw [H.out,← Int.tmod_eq_emod_of_nonneg hnn,Int.neg_tmod]),rfl⟩
  · have H:=Lib.hid (show aroundI n m = n % m by unfold aroundI; rw [if_neg hn])
    have hnn:0 ≤ n:=by omega
    go_enter Tryz.func12,Tryz.ntmps12
    go_wp2
    go_ret
    exact ⟨ret_int (by rw [H.out]),rfl⟩
end Go.Proofs.YteiomfgehlojeaaGreatDoor
end
section
namespace Go.Proofs.YteiomfgehlojeaaGreatDoor
open Go.RowKit
set_option maxHeartbeats 4000000 in
theorem pick_any (b off n c:Nat) (zs:List ByteArray) (x:Int) (w:World) (hn:n = zs.length) (h0:0 < n) (h1:n ≤ 1000) (hc:∀ j,j < n→w.cell? ⟨b,off + j,none⟩ = some (.string (zs.getD j ByteArray.empty))) (hx0:-9223372036854775808 ≤ x) (hx1:x ≤ 9223372036854775807) :
    Calls Tryz.prog 94 #[.slice (some ⟨b,off,none⟩) n c, .int .i64 x] w fun e w'=>e = .returned (.string (zs.getD (aroundI x n).toNat ByteArray.empty))∧Below w.heap.size w w':=by
  have ha:=aroundI_bd x n (by omega)
  have HA:=Lib.hid (around_any x n w hx0 hx1 (by omega) (by omega))
  obtain ⟨k,hk⟩:∃ k:Nat,aroundI x n = k:=⟨(aroundI x n).toNat,by omega⟩
  have hkn:k < n:=by omega
  have hcell:=hc k hkn
  rw [hk] at HA
  have he:(aroundI x n).toNat = k:=by omega
  rw [he]
  obtain ⟨s,hs⟩:∃ s,zs.getD k ByteArray.empty = s:=⟨_,rfl⟩
  rw [hs] at hcell ⊢
  clear hc ha hk he hs hn
  go_enter Tryz.func94,Tryz.ntmps94
  go_wp2_with (go_at_call 12; refine HA.out.mono ?_; rintro e w' ⟨rfl,rfl⟩)
  go_ret
  exact ⟨rfl,Below.refl _ _⟩
end Go.Proofs.YteiomfgehlojeaaGreatDoor
end
section
namespace Go.Proofs.YteiomfgehlojeaaGreatDoor
def Dg (l:List Int):Prop:=∀ x ∈ l,0 ≤ x∧x ≤ 9
def num (l:List Int):Nat:=l.foldl (fun a d=>10 * a + d.toNat) 0
def trimL (l:List Int):List Int:=l.dropWhile (· == 0)
def digs (n:Nat):List Int:=if h:n = 0 then [] else digs (n / 10) ++ [((n % 10:Nat):Int)]
termination_by n
decreasing_by omega
theorem Dg.nil:Dg []:=by intro x hx; cases hx
theorem Dg.cons {d:Int} {l:List Int} (h0:0 ≤ d) (h1:d ≤ 9) (h:Dg l):Dg (d :: l):=by
  intro x hx
  rcases List.mem_cons.1 hx with rfl | hx
  · exact ⟨h0,h1⟩
  · exact h x hx
theorem Dg.append {a b:List Int} (ha:Dg a) (hb:Dg b):Dg (a ++ b):=by
  intro x hx
  rcases List.mem_append.1 hx with hx | hx
  · exact ha x hx
  · exact hb x hx
theorem Dg.one {d:Int} (h0:0 ≤ d) (h1:d ≤ 9):Dg [d]:=Dg.cons h0 h1 Dg.nil
theorem Dg.of_append_left {a b:List Int} (h:Dg (a ++ b)):Dg a:=fun x hx=>h x (List.mem_append.2 (.inl hx))
theorem Dg.take {l:List Int} (h:Dg l) (k:Nat):Dg (l.take k):=fun x hx=>h x (List.mem_of_mem_take hx)
theorem Dg.drop {l:List Int} (h:Dg l) (k:Nat):Dg (l.drop k):=fun x hx=>h x (List.mem_of_mem_drop hx)
theorem Dg.replicate (n:Nat):Dg (List.replicate n 0):=by
  intro x hx
  rw [List.eq_of_mem_replicate hx]
  omega
theorem Dg.trim {l:List Int} (h:Dg l):Dg (trimL l):=fun x hx=>h x ((List.dropWhile_sublist _).subset hx)
theorem Dg.getD {l:List Int} (h:Dg l) (k:Nat):0 ≤ l.getD k 0∧l.getD k 0 ≤ 9:=by
  by_cases hk:k < l.length
  · have:=h (l[k]) (List.getElem_mem hk)
    simpa [List.getD_eq_getElem?_getD,List.getElem?_eq_getElem hk] using this
  · simp [List.getD_eq_getElem?_getD,List.getElem?_eq_none (Nat.le_of_not_lt hk)]
theorem num_nil:num [] = 0:=rfl
theorem num_snoc (l:List Int) (d:Int):num (l ++ [d]) = 10 * num l + d.toNat:=by simp [num,List.foldl_append]
theorem num_foldl (l:List Int):∀ a:Nat,l.foldl (fun a d=>10 * a + d.toNat) a = a * 10 ^ l.length + num l:=by
  induction l with
  | nil=>intro a; simp [num]
  | cons d l ih =>
    intro a
    have h1:=ih (10 * a + d.toNat)
    have h2:=ih (10 * 0 + d.toNat)
    show List.foldl _ (10 * a + d.toNat) l = a * 10 ^ (l.length + 1) + List.foldl _ (10 * 0 + d.toNat) l
    rw [h1,h2,Nat.pow_succ]
    generalize 10 ^ l.length = p
    rw [Nat.add_mul,Nat.add_mul,Nat.mul_comm 10 a,Nat.mul_assoc,Nat.mul_comm 10 p]
    omega
theorem num_append (a b:List Int):num (a ++ b) = num a * 10 ^ b.length + num b:=by
  unfold num
  rw [List.foldl_append]
  exact num_foldl b _
theorem num_cons (d:Int) (l:List Int):num (d :: l) = d.toNat * 10 ^ l.length + num l:=by
  have:=num_append [d] l
  simpa [num] using this
theorem num_zeros (k:Nat):num (List.replicate k 0) = 0:=by
  induction k with
  | zero=>rfl
  | succ k ih=>rw [List.replicate_succ,num_cons,ih]; simp
theorem num_shift (l:List Int) (k:Nat):num (l ++ List.replicate k 0) = num l * 10 ^ k:=by
  rw [num_append,num_zeros]; simp
theorem num_trim (l:List Int):num (trimL l) = num l:=by
  induction l with
  | nil=>rfl
  | cons d l ih =>
    unfold trimL at ih ⊢
    by_cases h:d = 0
    · subst h
      rw [List.dropWhile_cons_of_pos (by simp),ih,num_cons]
      simp
    · rw [List.dropWhile_cons_of_neg (by simpa using h)]
theorem num_lt {l:List Int} (h:Dg l):num l < 10 ^ l.length:=by
  induction l with
  | nil=>simp [num]
  | cons d l ih =>
    have h1:=ih (fun x hx=>h x (List.mem_cons_of_mem _ hx))
    have h2:=h d (List.mem_cons_self ..)
    rw [num_cons,List.length_cons,Nat.pow_succ]
    have h3:d.toNat ≤ 9:=by omega
    have h4:d.toNat * 10 ^ l.length ≤ 9 * 10 ^ l.length:=Nat.mul_le_mul_right _ h3
    omega
theorem digs_zero:digs 0 = []:=by rw [digs]; simp
theorem digs_pos (n:Nat) (h:n ≠ 0):digs n = digs (n / 10) ++ [((n % 10:Nat):Int)]:=by rw [digs]; simp [h]
theorem num_digs (n:Nat):num (digs n) = n:=by
  induction n using Nat.strongRecOn with
  | _ n ih =>
    by_cases h:n = 0
    · subst h; rw [digs_zero]; rfl
    · rw [digs_pos n h,num_snoc,ih (n / 10) (by omega),Int.toNat_natCast]
      omega
theorem digs_dg (n:Nat):Dg (digs n):=by
  induction n using Nat.strongRecOn with
  | _ n ih =>
    by_cases h:n = 0
    · subst h; rw [digs_zero]; exact Dg.nil
    · rw [digs_pos n h]
      exact (ih (n / 10) (by omega)).append (Dg.one (by omega) (by omega))
theorem digs_head (n:Nat):∀ d l,digs n = d :: l→d ≠ 0:=by
  induction n using Nat.strongRecOn with
  | _ n ih =>
    intro d l hd
    by_cases h:n = 0
    · subst h; rw [digs_zero] at hd; cases hd
    · rw [digs_pos n h] at hd
      by_cases h10:n / 10 = 0
      · rw [h10,digs_zero,List.nil_append] at hd
        injection hd with hd _
        omega
      · have hne:digs (n / 10) ≠ []:=by rw [digs_pos _ h10]; simp
        obtain ⟨d',l',hd'⟩:=List.exists_cons_of_ne_nil hne
        have:=ih (n / 10) (by omega) d' l' hd'
        rw [hd',List.cons_append] at hd
        injection hd with hd _
        rw [← hd]; exact this
theorem digs_num {l:List Int} (h:Dg l) (hh:∀ d r,l = d :: r→d ≠ 0):digs (num l) = l:=by
  have key:∀ (m:Nat) (l:List Int),l.length = m→Dg l→(∀ d r,l = d :: r→d ≠ 0)→digs (num l) = l:=by
    intro m
    induction m with
    | zero =>
      intro l hl _ _
      obtain rfl:l = []:=List.eq_nil_of_length_eq_zero hl
      exact digs_zero
    | succ m ih =>
      intro l hl h hh
      rcases List.eq_nil_or_concat l with rfl | ⟨r,x,rfl⟩
      · simp at hl
      · rw [List.concat_eq_append] at *
        have hx:=h x (by simp)
        have hr:Dg r:=h.of_append_left
        have hrl:r.length = m:=by simpa using hl
        rw [num_snoc]
        by_cases hr0:r = []
        · subst hr0
          have:=hh x [] rfl
          rw [num_nil,digs_pos _ (by omega),show (10 * 0 + x.toNat) / 10 = 0 by omega,digs_zero]
          simp; omega
        · obtain ⟨d',l',hd'⟩:=List.exists_cons_of_ne_nil hr0
          have ih1:=ih r hrl hr (fun d s e=>hh d (s ++ [x]) (by rw [e]; rfl))
          have hp:num r ≠ 0:=by
            intro e
            rw [e,digs_zero] at ih1
            exact hr0 ih1.symm
          rw [digs_pos _ (by omega),show (10 * num r + x.toNat) / 10 = num r by omega,ih1,show (10 * num r + x.toNat) % 10 = x.toNat by omega]
          congr 2
          omega
  exact key l.length l rfl h hh
theorem trim_head (l:List Int):∀ d r,trimL l = d :: r→d ≠ 0:=by
  intro d r h e
  subst e
  have:=List.head?_dropWhile_not (fun x:Int=>x == 0) l
  unfold trimL at h
  rw [h] at this
  simp at this
theorem trim_digs {l:List Int} (h:Dg l):trimL l = digs (num l):=by
  rw [← num_trim l]
  exact (digs_num h.trim (trim_head l)).symm
theorem digs_nil (n:Nat):digs n = []↔n = 0:=by
  constructor
  · intro h
    have:=num_digs n
    rw [h] at this
    exact this.symm
  · rintro rfl; exact digs_zero
theorem trim_nil {l:List Int} (h:Dg l):trimL l = []↔num l = 0:=by rw [trim_digs h,digs_nil]
def fromL (l:List Int) (i:Nat):Int:=if l.length ≤ i then 0 else l.getD (l.length - 1 - i) 0
theorem fromL_dg {l:List Int} (h:Dg l) (i:Nat):0 ≤ fromL l i∧fromL l i ≤ 9:=by
  unfold fromL
  split
  · omega
  · exact h.getD _
theorem num_low (l:List Int) (h:Dg l) (i:Nat) (hi:i < l.length):num (l.drop (l.length - (i + 1))) = (fromL l i).toNat * 10 ^ i + num (l.drop (l.length - i)):=by
  have h1:l.drop (l.length - (i + 1)) = l.getD (l.length - 1 - i) 0 :: l.drop (l.length - i):=by
    rw [show l.length - 1 - i = l.length - (i + 1) by omega]
    rw [List.drop_eq_getElem_cons (by omega)]
    congr 1
    · simp [List.getD_eq_getElem?_getD,List.getElem?_eq_getElem (show l.length - (i + 1) < l.length by omega)]
    · congr 1; omega
  rw [h1,num_cons]
  unfold fromL
  rw [if_neg (by omega),List.length_drop,show l.length - (l.length - i) = i by omega]
end Go.Proofs.YteiomfgehlojeaaGreatDoor
end
section
namespace Go.Proofs.YteiomfgehlojeaaGreatDoor
def totI (f:Nat→Int):Nat→Int
  | 0=>0
  | n + 1=>totI f n + f n * 10 ^ n
def lowI (o:List Int):Int:=(num o.reverse:Nat)
theorem lowI_nil:lowI [] = 0:=rfl
theorem lowI_snoc (o:List Int) (d:Int) (h:0 ≤ d):lowI (o ++ [d]) = d * 10 ^ o.length + lowI o:=by
  unfold lowI
  rw [List.reverse_append,List.reverse_cons,List.reverse_nil,List.nil_append,List.singleton_append,num_cons,List.length_reverse]
  push_cast
  rw [Int.toNat_of_nonneg h]
theorem Dg.reverse {l:List Int} (h:Dg l):Dg l.reverse:=fun x hx=>h x (List.mem_reverse.1 hx)
theorem lowI_lt {o:List Int} (h:Dg o):0 ≤ lowI o∧lowI o < 10 ^ o.length:=by
  unfold lowI
  have:=num_lt h.reverse
  rw [List.length_reverse] at this
  constructor
  · omega
  · exact_mod_cast this
theorem carry_mod (r:Int):(r.tmod 10 + 10).tmod 10 = r % 10:=by
  by_cases h:0 ≤ r
  · rw [Int.tmod_eq_emod_of_nonneg h,Int.tmod_eq_emod_of_nonneg (by omega)]; omega
  · have e:r.tmod 10 = -((-r) % 10):=by
      rw [← Int.tmod_eq_emod_of_nonneg (show 0 ≤ -r by omega),Int.neg_tmod,Int.neg_neg]
    rw [e,Int.tmod_eq_emod_of_nonneg (by omega)]; omega
theorem carry_div (r:Int):(r - r % 10).tdiv 10 = r / 10:=by
  have h:r - r % 10 = (r / 10) * 10:=by omega
  rw [h,Int.mul_tdiv_cancel _ (by decide)]
theorem carry_step {f:Nat→Int} {i:Nat} {o:List Int} {rest:Int} (h:lowI o + rest * 10 ^ i = totI f i) (hl:o.length = i) :
    lowI (o ++ [(rest + f i) % 10]) + (rest + f i) / 10 * 10 ^ (i + 1) = totI f (i + 1):=by
  rw [lowI_snoc _ _ (by omega),hl]
  show _ = totI f i + f i * 10 ^ i
  rw [← h,Int.pow_succ]
  generalize (10:Int) ^ i = p
  have e:rest + f i = (rest + f i) / 10 * 10 + (rest + f i) % 10:=by omega
  generalize (rest + f i) / 10 = q at *
  generalize (rest + f i) % 10 = m at *
  have e2:q * (p * 10) = q * 10 * p:=by rw [Int.mul_comm p 10,Int.mul_assoc]
  rw [e2]
  have e3:rest * p + f i * p = (q * 10 + m) * p:=by rw [← Int.add_mul,e]
  rw [Int.add_mul] at e3
  omega
theorem carry_more {t:Int} {o:List Int} {rest:Int} (h:lowI o + rest * 10 ^ o.length = t) (h0:0 ≤ rest) :
    lowI (o ++ [rest % 10]) + rest / 10 * 10 ^ (o ++ [rest % 10]).length = t:=by
  rw [lowI_snoc _ _ (by omega),List.length_append,List.length_singleton,Int.pow_succ,← h]
  generalize (10:Int) ^ o.length = p
  have e:rest = rest / 10 * 10 + rest % 10:=by omega
  generalize rest / 10 = q at *
  generalize rest % 10 = m at *
  have e2:q * (p * 10) = q * 10 * p:=by rw [Int.mul_comm p 10,Int.mul_assoc]
  rw [e2,e,Int.add_mul]
  omega
theorem carry_rest {t:Int} {o:List Int} {rest:Int} (hd:Dg o) (h:lowI o + rest * 10 ^ o.length = t) (h0:0 ≤ t):0 ≤ rest:=by
  have hb:=lowI_lt hd
  by_cases hr:0 ≤ rest
  · exact hr
  · exfalso
    have:rest * 10 ^ o.length ≤ -1 * 10 ^ o.length:=Int.mul_le_mul_of_nonneg_right (by omega) (Int.le_of_lt (Int.pow_pos (by decide)))
    omega
theorem carry_end {t:Int} {o:List Int} (hd:Dg o) (h:lowI o = t):trimL o.reverse = digs t.toNat:=by
  rw [trim_digs hd.reverse]
  congr 1
  rw [← h]
  rfl
theorem carry_end0 {t:Int} {o:List Int} (hd:Dg o) (h:lowI o + 0 * 10 ^ o.length = t):trimL o.reverse = digs t.toNat :=
  carry_end hd (by simpa using h)
theorem tot_from (l:List Int) (h:Dg l) (i:Nat):totI (fromL l) i = (num (l.drop (l.length - i)):Nat):=by
  induction i with
  | zero=>simp [totI,num_nil]
  | succ i ih =>
    rw [totI,ih]
    by_cases hi:i < l.length
    · have:=num_low l h i hi
      have h0:=(fromL_dg h i).1
      rw [this]
      push_cast
      rw [Int.toNat_of_nonneg h0]
      omega
    · rw [show l.length - (i + 1) = 0 by omega,show l.length - i = 0 by omega]
      unfold fromL
      rw [if_pos (by omega)]
      omega
theorem tot_all (l:List Int) (h:Dg l) (n:Nat) (hn:l.length ≤ n):totI (fromL l) n = (num l:Nat):=by
  rw [tot_from l h,show l.length - n = 0 by omega,List.drop_zero]
theorem tot_add (f g:Nat→Int) (n:Nat):totI (fun i=>f i + g i) n = totI f n + totI g n:=by
  induction n with
  | zero=>rfl
  | succ n ih=>simp only [totI,ih,Int.add_mul]; omega
theorem tot_sub (f g:Nat→Int) (n:Nat):totI (fun i=>f i - g i) n = totI f n - totI g n:=by
  induction n with
  | zero=>rfl
  | succ n ih=>simp only [totI,ih,Int.sub_mul]; omega
theorem tot_mul (k:Int) (f:Nat→Int) (n:Nat):totI (fun i=>k * f i) n = k * totI f n:=by
  induction n with
  | zero=>simp [totI]
  | succ n ih=>simp only [totI,ih,Int.mul_add,Int.mul_assoc]
end Go.Proofs.YteiomfgehlojeaaGreatDoor
end
section
namespace Go.Proofs.YteiomfgehlojeaaGreatDoor
open Go.RowKit
def idxI (p:Int→Bool):List Int→Int
  | []=>-1
  | x :: l=>if p x = true then 0 else if idxI p l < 0 then -1 else idxI p l + 1
theorem idxI_at (p:Int→Bool):∀ (l:List Int) (k:Nat),k < l.length→(∀ j,j < k→p (l.getD j 0) = false)→p (l.getD k 0) = true→idxI p l = k
  | [],k,h,_,_=>by simp at h
  | x :: l,0,_,_,h=>by unfold idxI; rw [if_pos (by simpa using h)]; rfl
  | x :: l,k + 1,hk,hj,h=>by
    have h0:=hj 0 (by omega)
    have ih:=idxI_at p l k (by simpa using hk) (fun j hjk=>by simpa using hj (j + 1) (by omega)) (by simpa using h)
    unfold idxI
    rw [if_neg (by simpa using h0),ih,if_neg (by omega)]
    simp
theorem idxI_none (p:Int→Bool):∀ (l:List Int),(∀ j,j < l.length→p (l.getD j 0) = false)→idxI p l = -1
  | [],_=>rfl
  | x :: l,h=>by
    have h0:=h 0 (by simp)
    have ih:=idxI_none p l (fun j hj=>by simpa using h (j + 1) (by simpa using hj))
    unfold idxI
    rw [if_neg (by simpa using h0),ih]
    simp
def badD (x:Int):Bool:=decide (x < 0∨9 < x)
def nzD (x:Int):Bool:=decide (x ≠ 0)
theorem badD_no {l:List Int} (h:Dg l):idxI badD l = -1:=by
  apply idxI_none
  intro j _
  have:=h.getD j
  unfold badD
  rw [decide_eq_false_iff_not]
  omega
theorem nzD_idx:∀ (l:List Int),(trimL l = []∧idxI nzD l = -1)∨∃ k:Nat,k < l.length∧idxI nzD l = k∧trimL l = l.drop k
  | [] => .inl ⟨rfl,rfl⟩
  | x :: l=>by
    by_cases hx:x = 0
    · subst hx
      have e:trimL (0 :: l) = trimL l:=by unfold trimL; rw [List.dropWhile_cons_of_pos (by simp)]
      rcases nzD_idx l with ⟨h1,h2⟩ | ⟨k,hk,h1,h2⟩
      · refine .inl ⟨by rw [e,h1],?_⟩
        unfold idxI; rw [if_neg (by simp [nzD]),h2]; simp
      · refine .inr ⟨k + 1,by simpa using hk,?_,by rw [e,h2]; rfl⟩
        unfold idxI; rw [if_neg (by simp [nzD]),h1,if_neg (by omega)]; simp
    · refine .inr ⟨0,by simp,?_,?_⟩
      · unfold idxI; rw [if_pos (by simpa [nzD] using hx)]; rfl
      · unfold trimL; rw [List.dropWhile_cons_of_neg (by simpa using hx)]; rfl
def zerosN (l:List Int):Nat:=l.length - (trimL l).length
theorem trimL_le (l:List Int):(trimL l).length ≤ l.length:=(List.dropWhile_sublist _).length_le
theorem zerosN_le (l:List Int):zerosN l ≤ l.length:=Nat.sub_le _ _
theorem zerosN_drop (l:List Int):l.drop (zerosN l) = trimL l:=by
  rcases nzD_idx l with ⟨h1,_⟩ | ⟨k,hk,_,h2⟩
  · unfold zerosN; rw [h1]; simp
  · unfold zerosN; rw [h2,List.length_drop,show l.length - (l.length - k) = k by omega]
theorem zerosN_idx (l:List Int):(idxI nzD l = -1∧zerosN l = l.length)∨(idxI nzD l = (zerosN l:Nat)∧zerosN l < l.length):=by
  rcases nzD_idx l with ⟨h1,h2⟩ | ⟨k,hk,h1,h2⟩
  · exact .inl ⟨h2,by unfold zerosN; rw [h1]; simp⟩
  · refine .inr ?_
    have:zerosN l = k:=by unfold zerosN; rw [h2,List.length_drop]; omega
    rw [this]; exact ⟨h1,hk⟩
theorem IsInts.drop_ {w:World} {A:Option Addr} {n c:Nat} {l:List Int} (h:IsInts w (.slice A n c) l) (k:Nat) (hk:k ≤ l.length):IsInts w (.slice (if c = k then A else A.map (·.add k)) (n - k) (c - k)) (l.drop k):=by
  obtain ⟨A',c1,he,h0,h1,h2⟩:=h
  injection he with e1 e3 e4
  subst e1; subst e4; subst e3
  have hl:(l.drop k).length = l.length - k:=by simp
  refine ⟨_,c - k,by rw [hl],by omega,by omega,fun hp=>?_⟩
  rw [hl] at hp
  obtain ⟨b,off,rfl,hc⟩:=h2 (by omega)
  refine ⟨b,off + k,?_,fun j hj=>?_⟩
  · by_cases hck:c = k
    · omega
    · rw [if_neg hck]
      simp only [Option.map_some,Addr.add]
      split
      · rename_i h; subst h; rfl
      · rfl
  · rw [hl] at hj
    rw [Nat.add_assoc,hc (k + j) (by omega)]
    simp [List.getD_eq_getElem?_getD,List.getElem?_drop]
theorem IsInts.len {w:World} {A:Option Addr} {n c:Nat} {l:List Int} (h:IsInts w (.slice A n c) l):n = l.length:=by
  obtain ⟨_,_,he,_⟩:=h
  injection he
set_option maxHeartbeats 400000 in
theorem cMay1_any (x:Int) (w:World) :
    Calls Tryz.prog 202 #[.int .i64 x] w fun e w'=>e = .returned (.bool (badD x))∧w = w':=by
  by_cases h0:x < 0
  · have e:badD x = true:=by simp [badD]; omega
    have E:=Lib.hid e
    clear e
    go_enter Tryz.func202,Tryz.ntmps202
    go_wp2
    go_ret
    exact ⟨ret_bool E.out.symm,rfl⟩
  · have e:decide (10 ≤ x) = badD x:=by
      unfold badD
      rw [decide_eq_decide]
      omega
    have E:=Lib.hid e
    clear e
    go_enter Tryz.func202,Tryz.ntmps202
    go_wp2
    go_ret
    exact ⟨ret_bool E.out,rfl⟩
set_option maxHeartbeats 1000000 in
theorem idxMay1_any (v:Value) (l:List Int) (w:World) (h:IsInts w v l) :
    Calls Tryz.prog 171 #[v, .func (.func 202) #[] #[]] w fun e w'=>e = .returned (.int .i64 (idxI badD l))∧w = w':=by
  obtain ⟨A,c,rfl,hlc,hcm,hA⟩:=h
  obtain ⟨r,hr⟩:∃ r,idxI badD l = r:=⟨_,rfl⟩
  have HR:=Lib.hid hr
  rw [hr]; clear hr
  by_cases h0:0 < l.length
  · obtain ⟨b,off,rfl,hcell⟩:=hA h0
    go_enter Tryz.func171,Tryz.ntmps171
    go_wp2
    go_loop [8] (fun i=>∃ k:Nat,i = .int .i64 k∧k ≤ l.length∧Aside (∀ j,j < k→badD (l.getD j 0) = false)) (fun i=>l.length - (intOf i).toNat)
    case atStart=>exact ⟨0,rfl,Nat.zero_le _,fun j hj=>absurd hj (by omega)⟩
    case round =>
      obtain ⟨k,rfl,hk,HS⟩:=hrel
      by_cases hlt:k < l.length
      · have c1:=hcell k hlt
        obtain ⟨x,hx⟩:∃ x,l.getD k 0 = x:=⟨_,rfl⟩
        rw [hx] at c1
        have HX:=Lib.hid hx
        obtain ⟨q,hq⟩:∃ q,badD x = q:=⟨_,rfl⟩
        have HQ:=Lib.hid hq
        clear hx hq hcell hA
        cases q with
        | true =>
          go_wp2_with (refine (cMay1_any x _).mono ?_; rintro e w' ⟨rfl,rfl⟩; rw [HQ.out])
          go_ret
          exact ⟨ret_int (by rw [← HR.out]; exact (idxI_at badD l k hlt HS.out (by rw [HX.out]; exact HQ.out)).symm),rfl⟩
        | false =>
          go_wp2_with (refine (cMay1_any x _).mono ?_; rintro e w' ⟨rfl,rfl⟩; rw [HQ.out])
          go_round
          case rel =>
            refine ⟨k + 1,by go_num,by omega,fun j hj=>?_⟩
            by_cases hjk:j < k
            · exact HS.out j hjk
            · obtain rfl:j = k:=by omega
              rw [HX.out]; exact HQ.out
          case measure=>simp [intOf]; omega
      · obtain rfl:k = l.length:=by omega
        clear hcell hA
        go_wp2
        go_ret
        exact ⟨ret_int (by rw [← HR.out]; exact (idxI_none badD l HS.out).symm),rfl⟩
  · have hl:l = []:=List.eq_nil_of_length_eq_zero (by omega)
    subst hl
    clear hA
    go_enter Tryz.func171,Tryz.ntmps171
    go_wp2
    go_loop [8] (fun i=>i = .int .i64 0) (fun i=>0)
    case atStart=>rfl
    case round =>
      subst hrel
      go_wp2
      go_ret
      exact ⟨ret_int HR.out,rfl⟩
set_option maxHeartbeats 400000 in
theorem cZeros1_any (x:Int) (w:World) :
    Calls Tryz.prog 172 #[.int .i64 x] w fun e w'=>e = .returned (.bool (nzD x))∧w = w':=by
  by_cases h0:x = 0
  · subst h0
    go_enter Tryz.func172,Tryz.ntmps172
    go_wp2
    go_ret
    exact ⟨rfl,rfl⟩
  · have e:nzD x = true:=by simpa [nzD] using h0
    have E:=Lib.hid e
    have hb:((x:Int) != 0) = true:=by simpa using h0
    clear e h0
    go_enter Tryz.func172,Tryz.ntmps172
    go_wp2
    go_ret
    exact ⟨ret_bool E.out.symm,rfl⟩
set_option maxHeartbeats 1000000 in
theorem idxZeros1_any (v:Value) (l:List Int) (w:World) (h:IsInts w v l) :
    Calls Tryz.prog 171 #[v, .func (.func 172) #[] #[]] w fun e w'=>e = .returned (.int .i64 (idxI nzD l))∧w = w':=by
  obtain ⟨A,c,rfl,hlc,hcm,hA⟩:=h
  obtain ⟨r,hr⟩:∃ r,idxI nzD l = r:=⟨_,rfl⟩
  have HR:=Lib.hid hr
  rw [hr]; clear hr
  by_cases h0:0 < l.length
  · obtain ⟨b,off,rfl,hcell⟩:=hA h0
    go_enter Tryz.func171,Tryz.ntmps171
    go_wp2
    go_loop [8] (fun i=>∃ k:Nat,i = .int .i64 k∧k ≤ l.length∧Aside (∀ j,j < k→nzD (l.getD j 0) = false)) (fun i=>l.length - (intOf i).toNat)
    case atStart=>exact ⟨0,rfl,Nat.zero_le _,fun j hj=>absurd hj (by omega)⟩
    case round =>
      obtain ⟨k,rfl,hk,HS⟩:=hrel
      by_cases hlt:k < l.length
      · have c1:=hcell k hlt
        obtain ⟨x,hx⟩:∃ x,l.getD k 0 = x:=⟨_,rfl⟩
        rw [hx] at c1
        have HX:=Lib.hid hx
        obtain ⟨q,hq⟩:∃ q,nzD x = q:=⟨_,rfl⟩
        have HQ:=Lib.hid hq
        clear hx hq hcell hA
        cases q with
        | true =>
          go_wp2_with (refine (cZeros1_any x _).mono ?_; rintro e w' ⟨rfl,rfl⟩; rw [HQ.out])
          go_ret
          exact ⟨ret_int (by rw [← HR.out]; exact (idxI_at nzD l k hlt HS.out (by rw [HX.out]; exact HQ.out)).symm),rfl⟩
        | false =>
          go_wp2_with (refine (cZeros1_any x _).mono ?_; rintro e w' ⟨rfl,rfl⟩; rw [HQ.out])
          go_round
          case rel =>
            refine ⟨k + 1,by go_num,by omega,fun j hj=>?_⟩
            by_cases hjk:j < k
            · exact HS.out j hjk
            · obtain rfl:j = k:=by omega
              rw [HX.out]; exact HQ.out
          case measure=>simp [intOf]; omega
      · obtain rfl:k = l.length:=by omega
        clear hcell hA
        go_wp2
        go_ret
        exact ⟨ret_int (by rw [← HR.out]; exact (idxI_none nzD l HS.out).symm),rfl⟩
  · have hl:l = []:=List.eq_nil_of_length_eq_zero (by omega)
    subst hl
    clear hA
    go_enter Tryz.func171,Tryz.ntmps171
    go_wp2
    go_loop [8] (fun i=>i = .int .i64 0) (fun i=>0)
    case atStart=>rfl
    case round =>
      subst hrel
      go_wp2
      go_ret
      exact ⟨ret_int HR.out,rfl⟩
set_option maxHeartbeats 400000 in
theorem dmay_any (v:Value) (l:List Int) (w:World) (h:IsInts w v l) (hd:Dg l) :
    Calls Tryz.prog 148 #[v] w fun e w'=>e = .returned (.bool true)∧w = w':=by
  have hi:=idxMay1_any v l w h
  rw [badD_no hd] at hi
  have hc:Calls Tryz.prog 201 #[v, .func (.func 202) #[] #[]] w fun e w'=>e = .returned (.bool false)∧w = w':=by
    clear h
    go_enter Tryz.func201,Tryz.ntmps201
    go_wp2_with (refine hi.mono ?_; rintro e w' ⟨rfl,rfl⟩)
    go_ret
    exact ⟨rfl,rfl⟩
  clear hi h
  go_enter Tryz.func148,Tryz.ntmps148
  go_wp2_with (refine hc.mono ?_; rintro e w' ⟨rfl,rfl⟩)
  go_ret
  exact ⟨rfl,rfl⟩
set_option maxHeartbeats 400000 in
theorem zeros_any (v:Value) (l:List Int) (w:World) (h:IsInts w v l) :
    Calls Tryz.prog 91 #[v] w fun e w'=>e = .returned (.int .i64 (zerosN l:Nat))∧w = w':=by
  have hi:=idxZeros1_any v l w h
  obtain ⟨A,c,rfl,hlc,hcm,_⟩:=h
  rcases zerosN_idx l with ⟨h1,h2⟩ | ⟨h1,h2⟩
  · rw [h1] at hi
    rw [h2]
    clear h1 h2
    go_enter Tryz.func91,Tryz.ntmps91
    go_wp2_with (refine hi.mono ?_; rintro e w' ⟨rfl,rfl⟩)
    go_ret
    exact ⟨rfl,rfl⟩
  · rw [h1] at hi
    obtain ⟨z,hz⟩:∃ z,zerosN l = z:=⟨_,rfl⟩
    rw [hz] at hi h2 ⊢
    clear h1 hz
    go_enter Tryz.func91,Tryz.ntmps91
    go_wp2_with (refine hi.mono ?_; rintro e w' ⟨rfl,rfl⟩)
    go_ret
    exact ⟨rfl,rfl⟩
set_option maxHeartbeats 400000 in
theorem from_any (v:Value) (l:List Int) (i:Nat) (w:World) (h:IsInts w v l) (hi:i ≤ 9223372036854775807) :
    Calls Tryz.prog 479 #[v, .int .i64 i] w fun e w'=>e = .returned (.int .i64 (fromL l i))∧w = w':=by
  obtain ⟨A,c,rfl,hlc,hcm,hA⟩:=h
  obtain ⟨r,hr⟩:∃ r,fromL l i = r:=⟨_,rfl⟩
  have HR:=Lib.hid hr
  rw [hr]
  by_cases hlt:i < l.length
  · obtain ⟨b,off,rfl,hcell⟩:=hA (by omega)
    have c1:=hcell (l.length - 1 - i) (by omega)
    unfold fromL at hr
    rw [if_neg (by omega)] at hr
    rw [hr] at c1
    clear hcell hA hr
    have e1:((l.length:Int) - 1 - (i:Int)).toNat = l.length - 1 - i:=by omega
    go_enter Tryz.func479,Tryz.ntmps479
    go_wp2
    go_ret
    exact ⟨rfl,rfl⟩
  · unfold fromL at hr
    rw [if_pos (by omega)] at hr
    subst hr
    clear hA
    go_enter Tryz.func479,Tryz.ntmps479
    go_wp2
    go_ret
    exact ⟨rfl,rfl⟩
end Go.Proofs.YteiomfgehlojeaaGreatDoor
end
section
namespace Go.Proofs.YteiomfgehlojeaaGreatDoor
structure Dc where
  neg:Bool
  l:List Int
  s:Nat
def stripZ (l:List Int):Nat→List Int × Nat
  | 0=>(l,0)
  | s + 1=>if l.getLast? = some 0 then stripZ l.dropLast s else (l,s + 1)
def trimD (d:Dc):Dc:=if (stripZ (trimL d.l) d.s).1 = [] then ⟨false,[],0⟩ else ⟨d.neg,(stripZ (trimL d.l) d.s).1,(stripZ (trimL d.l) d.s).2⟩
def al (K:Nat) (v:Int):Dc:=⟨decide (v < 0),digs v.natAbs,K⟩
def cz (K:Nat) (v:Int):Dc:=trimD (al K v)
def atK (K:Nat) (d:Dc):Int:=if d.neg = true then -((num d.l * 10 ^ (K - d.s):Nat):Int) else ((num d.l * 10 ^ (K - d.s):Nat):Int)
def cmp3 (x y:Int):Int:=if x < y then -1 else if x = y then 0 else 1
theorem stripZ_snoc (l:List Int) (s:Nat):stripZ (l ++ [0]) (s + 1) = stripZ l s:=by
  rw [stripZ,if_pos (by simp),List.dropLast_concat]
theorem stripZ_nil:∀ s,(stripZ [] s).1 = []
  | 0=>rfl
  | s + 1=>by simp [stripZ]
theorem stripZ_dg:∀ (s:Nat) (l:List Int),Dg l→Dg (stripZ l s).1
  | 0,_,h=>h
  | s + 1,l,h=>by
    rw [stripZ]
    split
    · exact stripZ_dg s _ (fun x hx=>h x (List.dropLast_subset _ hx))
    · exact h
theorem stripZ_le:∀ (s:Nat) (l:List Int),(stripZ l s).2 ≤ s
  | 0,_=>Nat.le_refl _
  | s + 1,l=>by
    rw [stripZ]
    split
    · exact Nat.le_succ_of_le (stripZ_le s _)
    · exact Nat.le_refl _
theorem stripZ_len:∀ (s:Nat) (l:List Int),(stripZ l s).1.length ≤ l.length
  | 0,_=>Nat.le_refl _
  | s + 1,l=>by
    rw [stripZ]
    split
    · exact Nat.le_trans (stripZ_len s _) (by simp)
    · exact Nat.le_refl _
theorem trimL_snoc0 (l:List Int):trimL (l ++ [0]) = if trimL l = [] then [] else trimL l ++ [0]:=by
  unfold trimL
  rw [List.dropWhile_append]
  by_cases h:List.dropWhile (fun x:Int=>x == 0) l = []
  · rw [if_pos h,h]; rfl
  · rw [if_neg h]
    cases hd:List.dropWhile (fun x:Int=>x == 0) l with
    | nil=>exact absurd hd h
    | cons a r=>rfl
theorem trimD_snoc (n:Bool) (l:List Int) (s:Nat):trimD ⟨n,l ++ [0],s + 1⟩ = trimD ⟨n,l,s⟩:=by
  unfold trimD
  dsimp only
  rw [trimL_snoc0]
  by_cases h:trimL l = []
  · rw [if_pos h,h,stripZ_nil,stripZ_nil]; rfl
  · rw [if_neg h,stripZ_snoc]
theorem trimD_shift (n:Bool) (l:List Int) (s k:Nat):trimD ⟨n,l ++ List.replicate k 0,s + k⟩ = trimD ⟨n,l,s⟩:=by
  induction k with
  | zero=>simp
  | succ k ih =>
    rw [List.replicate_succ',← List.append_assoc,← Nat.add_assoc,trimD_snoc,ih]
theorem trimD_num {n:Bool} {l l':List Int} (s:Nat) (h:Dg l) (h':Dg l') (e:num l = num l'):trimD ⟨n,l,s⟩ = trimD ⟨n,l',s⟩:=by
  unfold trimD
  dsimp only
  rw [trim_digs h,trim_digs h',e]
theorem trimD_zero (n:Bool) (l:List Int) (s:Nat) (h:Dg l) (e:num l = 0):trimD ⟨n,l,s⟩ = ⟨false,[],0⟩:=by
  unfold trimD
  dsimp only
  rw [(trim_nil h).2 e,stripZ_nil,if_pos rfl]
theorem trimD_eq (K:Nat) (d:Dc) (h:Dg d.l) (hs:d.s ≤ K):trimD d = cz K (atK K d):=by
  obtain ⟨n,l,s⟩:=d
  obtain ⟨k,rfl⟩:=Nat.le.dest hs
  have e:num (digs (num l * 10 ^ k)) = num (l ++ List.replicate k 0):=by rw [num_digs,num_shift]
  dsimp only at h hs
  unfold cz al atK
  dsimp only
  rw [show s + k - s = k by omega]
  by_cases hz:num l * 10 ^ k = 0
  · have hz0:num l = 0:=by
      rcases Nat.mul_eq_zero.1 hz with h | h
      · exact h
      · exact absurd h (by have:=Nat.pow_pos (n:=k) (show 0 < 10 by omega); omega)
    rw [trimD_zero n l s h hz0,hz]
    have hz1:=trimD_zero false [] (s + k) Dg.nil num_nil
    cases n <;> simp [digs_zero,hz1]
  · have hp:(0:Int) < ((num l * 10 ^ k:Nat):Int):=by omega
    rw [← trimD_shift n l s k]
    generalize hm:num l * 10 ^ k = m at *
    cases n with
    | true =>
      rw [if_pos rfl,show decide (-(m:Int) < 0) = true by simp; omega,show (-(m:Int)).natAbs = m by omega]
      exact trimD_num _ (h.append (Dg.replicate k)) (digs_dg m) e.symm
    | false =>
      rw [if_neg (by simp),show decide ((m:Int) < 0) = false by simp,show ((m:Int)).natAbs = m by omega]
      exact trimD_num _ (h.append (Dg.replicate k)) (digs_dg m) e.symm
theorem trimD_dg (d:Dc) (h:Dg d.l):Dg (trimD d).l:=by
  unfold trimD
  split
  · exact Dg.nil
  · exact stripZ_dg _ _ h.trim
theorem trimD_s (d:Dc):(trimD d).s ≤ d.s:=by
  unfold trimD
  split
  · exact Nat.zero_le _
  · exact stripZ_le _ _
theorem trimD_len (d:Dc):(trimD d).l.length ≤ d.l.length:=by
  unfold trimD
  split
  · exact Nat.zero_le _
  · exact Nat.le_trans (stripZ_len _ _) ((List.dropWhile_sublist _).length_le)
theorem atK_zero (K:Nat):atK K ⟨false,[],0⟩ = 0:=by simp [atK,num_nil]
theorem stripZ_num:∀ (s:Nat) (l:List Int) (K:Nat),s ≤ K→num (stripZ l s).1 * 10 ^ (K - (stripZ l s).2) = num l * 10 ^ (K - s)
  | 0,_,_,_=>rfl
  | s + 1,l,K,hK=>by
    rw [stripZ]
    split
    · rename_i h
      rw [stripZ_num s _ K (by omega)]
      have hl:l = l.dropLast ++ [0]:=by
        have hne:l ≠ []:=by rintro rfl; simp at h
        have:=List.dropLast_concat_getLast hne
        rw [List.getLast?_eq_some_getLast hne] at h
        injection h with h
        rw [h] at this
        exact this.symm
      have h2:num l = 10 * num l.dropLast:=by
        conv=>lhs; rw [hl]
        rw [num_snoc]; simp
      rw [h2,show K - s = K - (s + 1) + 1 by omega,Nat.pow_succ]
      generalize 10 ^ (K - (s + 1)) = p
      rw [Nat.mul_comm p 10,← Nat.mul_assoc,Nat.mul_comm (num _) 10]
    · rfl
theorem atK_trim (K:Nat) (d:Dc) (h:Dg d.l) (hs:d.s ≤ K):atK K (trimD d) = atK K d:=by
  have e:=stripZ_num d.s (trimL d.l) K hs
  rw [num_trim] at e
  unfold trimD
  split
  · rename_i h0
    rw [h0,num_nil,Nat.zero_mul] at e
    rw [atK_zero]
    unfold atK
    rw [← e]
    split <;> rfl
  · unfold atK
    dsimp only
    rw [e]
theorem atK_al (K:Nat) (v:Int):atK K (al K v) = v:=by
  unfold atK al
  dsimp only
  rw [num_digs,Nat.sub_self,Nat.pow_zero,Nat.mul_one]
  by_cases h:v < 0
  · rw [if_pos (by simpa using h)]; omega
  · rw [if_neg (by simpa using h)]; omega
theorem al_dg (K:Nat) (v:Int):Dg (al K v).l:=digs_dg _
theorem cz_dg (K:Nat) (v:Int):Dg (cz K v).l:=trimD_dg _ (al_dg K v)
theorem cz_s (K:Nat) (v:Int):(cz K v).s ≤ K:=trimD_s _
theorem atK_cz (K:Nat) (v:Int):atK K (cz K v) = v:=by
  unfold cz
  rw [atK_trim K _ (al_dg K v) (Nat.le_refl _),atK_al]
theorem trim_cz (K:Nat) (v:Int):trimD (cz K v) = cz K v:=by
  rw [trimD_eq K _ (cz_dg K v) (cz_s K v),atK_cz]
end Go.Proofs.YteiomfgehlojeaaGreatDoor
end
section
namespace Go.Proofs.YteiomfgehlojeaaGreatDoor
open Go.RowKit
theorem clone_any (v:Value) (l:List Int) (w:World) (h:IsInts w v l) (hl:l.length ≤ 1000000) :
    Calls Tryz.prog 71 #[v] w fun e w'=>∃ v',e = .returned v'∧w'.ownsRow w.heap.size 3 1 v' l.length (ints l)∧Below w.heap.size w w':=by
  obtain ⟨A,c,rfl,hlc,hcm,hA⟩:=h
  by_cases h0:0 < l.length
  · obtain ⟨b,off,rfl,hcell⟩:=hA h0
    refine (Tryz.slices_Clone_int b off l.length c l w (Nat.le_refl _) (by omega) hcell).mono ?_
    rintro e w' ⟨v',rfl,h1,_,h2⟩
    rw [List.take_length] at h1
    exact ⟨v',rfl,h1,h2⟩
  · have hl0:l = []:=List.eq_nil_of_length_eq_zero (by omega)
    subst hl0
    cases A with
    | none =>
      refine (Tryz.slices_Clone_int_nil 0 c w).mono ?_
      rintro e w' ⟨rfl,rfl⟩
      exact ⟨_,rfl,World.ownsRow_nil _ _ _ _,Below.refl _ _⟩
    | some a =>
      refine (Tryz.slices_Clone_int_zero a c w).mono ?_
      rintro e w' ⟨v',rfl,h1,_,h2⟩
      exact ⟨v',rfl,h1,h2⟩
set_option maxHeartbeats 400000 in
theorem dtrim_any (v:Value) (l:List Int) (w:World) (h:IsInts w v l) (hl:l.length ≤ 1000000) :
    Calls Tryz.prog 54 #[v] w fun e w'=>∃ v',e = .returned v'∧w'.ownsRow w.heap.size 3 1 v' (trimL l).length (ints (trimL l))∧Below w.heap.size w w':=by
  have hz:=zeros_any v l w h
  have hzl:=zerosN_le l
  have hd:=zerosN_drop l
  have hlen:(trimL l).length ≤ 1000000:=Nat.le_trans (trimL_le l) hl
  obtain ⟨z,hzz⟩:∃ z,zerosN l = z:=⟨_,rfl⟩
  rw [hzz] at hz hzl hd
  have HD:=Lib.hid hd
  clear hd hzz
  obtain ⟨A,c,rfl,hlc,hcm,hA⟩:=h
  have hs:=IsInts.drop_ ⟨A,c,rfl,hlc,hcm,hA⟩ z hzl
  rw [HD.out] at hs
  have hc:=clone_any _ _ w hs hlen
  have HC:=Lib.hid hc
  clear hA hs hc hlen
  go_enter Tryz.func54,Tryz.ntmps54
  go_wp2_with (first
    | (go_at_call 91; refine hz.mono ?_; rintro e w' ⟨rfl,rfl⟩)
    | (go_at_call 71; refine HC.out.mono ?_; rintro e w' ⟨v',rfl,h1,h2⟩))
  all_goals (go_ret; exact ⟨_,rfl,h1,h2⟩)
theorem cmp3_lt {x y:Int} (h:x < y):cmp3 x y = -1:=by unfold cmp3; rw [if_pos h]
theorem cmp3_eq (x:Int):cmp3 x x = 0:=by unfold cmp3; rw [if_neg (by omega),if_pos rfl]
theorem cmp3_gt {x y:Int} (h:y < x):cmp3 x y = 1:=by unfold cmp3; rw [if_neg (by omega),if_neg (by omega)]
set_option maxHeartbeats 400000 in
theorem cmpc_any (x y:Int) (w:World) :
    Calls Tryz.prog 199 #[.int .i64 x, .int .i64 y] w fun e w'=>e = .returned (.int .i64 (cmp3 x y))∧w = w':=by
  have hn:∀ (z:Int) (w:World),Calls Tryz.prog 237 #[.int .i64 z] w fun e w'=>e = .returned (.bool false)∧w = w':=by
    intro z w
    go_enter Tryz.func237,Tryz.ntmps237
    go_wp2
    go_ret
    exact ⟨rfl,rfl⟩
  rcases Int.lt_trichotomy x y with h | h | h
  · rw [cmp3_lt h]
    go_enter Tryz.func199,Tryz.ntmps199
    go_wp2_with (go_at_call 237; refine (hn _ _).mono ?_; rintro e w' ⟨rfl,rfl⟩)
    go_ret
    exact ⟨rfl,rfl⟩
  · subst h
    rw [cmp3_eq]
    go_enter Tryz.func199,Tryz.ntmps199
    go_wp2_with (go_at_call 237; refine (hn _ _).mono ?_; rintro e w' ⟨rfl,rfl⟩)
    go_ret
    exact ⟨rfl,rfl⟩
  · rw [cmp3_gt h]
    go_enter Tryz.func199,Tryz.ntmps199
    go_wp2_with (go_at_call 237; refine (hn _ _).mono ?_; rintro e w' ⟨rfl,rfl⟩)
    go_ret
    exact ⟨rfl,rfl⟩
def cmpL:List Int→List Int→Int
  | [],[]=>0
  | [],_ :: _=>-1
  | _ :: _,[]=>1
  | x :: a,y :: b=>if cmp3 x y = 0 then cmpL a b else cmp3 x y
theorem cmp3_zero {x y:Int} (h:cmp3 x y = 0):x = y:=by
  unfold cmp3 at h
  split at h
  · omega
  · split at h
    · assumption
    · omega
theorem cmpL_skip:∀ (k:Nat) (a b:List Int),k ≤ a.length→k ≤ b.length→(∀ j,j < k→a.getD j 0 = b.getD j 0)→cmpL a b = cmpL (a.drop k) (b.drop k)
  | 0,_,_,_,_,_=>rfl
  | k + 1,[],_,h,_,_=>by simp at h
  | k + 1,_ :: _,[],_,h,_=>by simp at h
  | k + 1,x :: a,y :: b,ha,hb,h=>by
    have h0:x = y:=by simpa using h 0 (by omega)
    subst h0
    have ih:=cmpL_skip k a b (by simpa using ha) (by simpa using hb) (fun j hj=>by simpa using h (j + 1) (by omega))
    rw [cmpL,cmp3_eq,if_pos rfl,ih]
    rfl
theorem cmpL_at {a b:List Int} {k:Nat} (ha:k < a.length) (hb:k < b.length) (h:∀ j,j < k→a.getD j 0 = b.getD j 0) (hne:cmp3 (a.getD k 0) (b.getD k 0) ≠ 0):cmpL a b = cmp3 (a.getD k 0) (b.getD k 0):=by
  rw [cmpL_skip k a b (by omega) (by omega) h,List.drop_eq_getElem_cons ha,List.drop_eq_getElem_cons hb,cmpL]
  have e1:a.getD k 0 = a[k]:=by simp [List.getD_eq_getElem?_getD,ha]
  have e2:b.getD k 0 = b[k]:=by simp [List.getD_eq_getElem?_getD,hb]
  rw [e1,e2] at hne ⊢
  rw [if_neg hne]
theorem cmpL_short {a b:List Int} {k:Nat} (ha:k < a.length) (hb:b.length ≤ k) (hk:k ≤ b.length) (h:∀ j,j < k→a.getD j 0 = b.getD j 0):cmpL a b = 1:=by
  rw [cmpL_skip k a b (by omega) (by omega) h,List.drop_eq_getElem_cons ha,List.drop_of_length_le hb,cmpL]
theorem cmpL_less {a b:List Int} (hb:a.length < b.length) (h:∀ j,j < a.length→a.getD j 0 = b.getD j 0):cmpL a b = -1:=by
  rw [cmpL_skip a.length a b (Nat.le_refl _) (by omega) h,List.drop_length,List.drop_eq_getElem_cons hb,cmpL]
theorem cmpL_same {a b:List Int} (hb:a.length = b.length) (h:∀ j,j < a.length→a.getD j 0 = b.getD j 0):cmpL a b = 0:=by
  rw [cmpL_skip a.length a b (Nat.le_refl _) (by omega) h,List.drop_length,List.drop_of_length_le (by omega),cmpL]
set_option maxHeartbeats 2000000 in
theorem scmp_any (v u:Value) (a b:List Int) (w:World) (ha:IsInts w v a) (hb:IsInts w u b) :
    Calls Tryz.prog 200 #[v,u] w fun e w'=>e = .returned (.int .i64 (cmpL a b))∧w = w':=by
  obtain ⟨A,c,rfl,hac,hacm,hA⟩:=ha
  obtain ⟨B,d,rfl,hbc,hbcm,hB⟩:=hb
  obtain ⟨r,hr⟩:∃ r,cmpL a b = r:=⟨_,rfl⟩
  have HR:=Lib.hid hr
  rw [hr]; clear hr
  have fA:a.length ≤ 0∨∃ b1 o1,A = some ⟨b1,o1,none⟩∧Hid (∀ j,j < a.length→w.cell? ⟨b1,o1 + j,none⟩ = some (.int .i64 (a.getD j 0))):=by
    by_cases h:0 < a.length
    · obtain ⟨b1,o1,h1,h2⟩:=hA h; exact .inr ⟨b1,o1,h1,h2⟩
    · exact .inl (by omega)
  have fB:b.length ≤ 0∨∃ b1 o1,B = some ⟨b1,o1,none⟩∧Hid (∀ j,j < b.length→w.cell? ⟨b1,o1 + j,none⟩ = some (.int .i64 (b.getD j 0))):=by
    by_cases h:0 < b.length
    · obtain ⟨b1,o1,h1,h2⟩:=hB h; exact .inr ⟨b1,o1,h1,h2⟩
    · exact .inl (by omega)
  clear hA hB
  rcases fA with ha0 | ⟨b1,o1,rfl,HA⟩
  · go_enter Tryz.func200,Tryz.ntmps200
    go_wp2
    go_loop [11] (fun i=>i = .int .i64 0) (fun i=>0)
    case atStart=>rfl
    case round =>
      subst hrel
      rcases Nat.lt_or_ge 0 b.length with hb0 | hb0
      · have hx:a.length < b.length:=by omega
        have hres:r = -1:=by rw [← HR.out]; exact cmpL_less (by omega) (fun j hj=>absurd hj (by omega))
        subst hres
        go_wp2
        go_ret
        exact ⟨rfl,rfl⟩
      · have hres:r = 0:=by rw [← HR.out]; exact cmpL_same (by omega) (fun j hj=>absurd hj (by omega))
        subst hres
        go_wp2
        go_ret
        exact ⟨rfl,rfl⟩
  rcases fB with hb0 | ⟨b2,o2,rfl,HB⟩
  all_goals
    go_enter Tryz.func200,Tryz.ntmps200
    go_wp2
    go_loop [11] (fun i=>∃ k:Nat,i = .int .i64 k∧k ≤ a.length∧k ≤ b.length∧Aside (∀ j,j < k→a.getD j 0 = b.getD j 0)) (fun i=>a.length - (intOf i).toNat)
    case atStart=>exact ⟨0,rfl,Nat.zero_le _,Nat.zero_le _,fun j hj=>absurd hj (by omega)⟩
    case round =>
      obtain ⟨k,rfl,hka,hkb,HS⟩:=hrel
      by_cases hlt:k < a.length
      · have c1:=HA.out k hlt
        obtain ⟨x,hx⟩:∃ x,a.getD k 0 = x:=⟨_,rfl⟩
        rw [hx] at c1
        have HX:=Lib.hid hx
        clear hx
        by_cases hlb:k < b.length
        · first
            | (exfalso; omega)
            | (have c2 := HB.out k hlb
               obtain ⟨y,hy⟩:∃ y,b.getD k 0 = y:=⟨_,rfl⟩
               rw [hy] at c2
               have HY:=Lib.hid hy
               clear hy
               obtain ⟨q,hq⟩:∃ q,cmp3 x y = q:=⟨_,rfl⟩
               have HQ:=Lib.hid hq
               clear hq
               by_cases hq0:q = 0
               · subst hq0
                 go_wp2_with (go_at_call 199; refine (cmpc_any x y _).mono ?_; rintro e w' ⟨rfl,rfl⟩; rw [HQ.out])
                 go_round
                 case rel =>
                   refine ⟨k + 1,by go_num,by omega,by omega,fun j hj=>?_⟩
                   by_cases hjk:j < k
                   · exact HS.out j hjk
                   · obtain rfl:j = k:=by omega
                     rw [HX.out,HY.out]; exact cmp3_zero HQ.out
                 case measure=>simp [intOf]; omega
               · have hres:r = q:=by
                   rw [← HR.out,← HQ.out,← HX.out,← HY.out]
                   exact cmpL_at hlt hlb HS.out (by rw [HX.out,HY.out,HQ.out]; exact hq0)
                 subst hres
                 have hbne:((r:Int) != 0) = true:=by simpa using hq0
                 go_wp2_with (go_at_call 199; refine (cmpc_any x y _).mono ?_; rintro e w' ⟨rfl,rfl⟩; rw [HQ.out])
                 go_ret
                 exact ⟨rfl,rfl⟩)
        · have hres:r = 1:=by rw [← HR.out]; exact cmpL_short hlt (by omega) (by omega) HS.out
          subst hres
          go_wp2
          go_ret
          exact ⟨rfl,rfl⟩
      · obtain rfl:k = a.length:=by omega
        rcases Nat.lt_or_ge a.length b.length with hb1 | hb1
        · have hres:r = -1:=by rw [← HR.out]; exact cmpL_less hb1 HS.out
          subst hres
          go_wp2
          go_ret
          exact ⟨rfl,rfl⟩
        · have hres:r = 0:=by rw [← HR.out]; exact cmpL_same (by omega) HS.out
          subst hres
          go_wp2
          go_ret
          exact ⟨rfl,rfl⟩
end Go.Proofs.YteiomfgehlojeaaGreatDoor
end
section
namespace Go.Proofs.YteiomfgehlojeaaGreatDoor
open Go.RowKit
def orL:List Int→Int
  | []=>0
  | x :: l=>if x = 0 then orL l else x
theorem orL_skip:∀ (k:Nat) (l:List Int),k ≤ l.length→(∀ j,j < k→l.getD j 0 = 0)→orL l = orL (l.drop k)
  | 0,_,_,_=>rfl
  | k + 1,[],h,_=>by simp at h
  | k + 1,x :: l,h,h0=>by
    have hx:x = 0:=by simpa using h0 0 (by omega)
    subst hx
    rw [orL,if_pos rfl,orL_skip k l (by simpa using h) (fun j hj=>by simpa using h0 (j + 1) (by omega))]
    rfl
set_option maxHeartbeats 1000000 in
theorem cor_any (v:Value) (l:List Int) (w:World) (h:IsInts w v l) :
    Calls Tryz.prog 198 #[v] w fun e w'=>e = .returned (.int .i64 (orL l))∧w = w':=by
  obtain ⟨A,c,rfl,hlc,hcm,hA⟩:=h
  obtain ⟨r,hr⟩:∃ r,orL l = r:=⟨_,rfl⟩
  have HR:=Lib.hid hr
  rw [hr]; clear hr
  by_cases h0:0 < l.length
  · obtain ⟨b,off,rfl,hcell⟩:=hA h0
    go_enter Tryz.func198,Tryz.ntmps198
    go_wp2
    go_loop [8] (fun i=>∃ k:Nat,i = .int .i64 k∧k ≤ l.length∧Aside (∀ j,j < k→l.getD j 0 = 0)) (fun i=>l.length - (intOf i).toNat)
    case atStart=>exact ⟨0,rfl,Nat.zero_le _,fun j hj=>absurd hj (by omega)⟩
    case round =>
      obtain ⟨k,rfl,hk,HS⟩:=hrel
      by_cases hlt:k < l.length
      · have c1:=hcell k hlt
        obtain ⟨x,hx⟩:∃ x,l.getD k 0 = x:=⟨_,rfl⟩
        rw [hx] at c1
        have HX:=Lib.hid hx
        clear hx hcell hA
        by_cases hx0:x = 0
        · subst hx0
          go_wp2
          go_round
          case rel =>
            refine ⟨k + 1,by go_num,by omega,fun j hj=>?_⟩
            by_cases hjk:j < k
            · exact HS.out j hjk
            · obtain rfl:j = k:=by omega
              exact HX.out
          case measure=>simp [intOf]; omega
        · have hres:r = x:=by
            rw [← HR.out,orL_skip k l hk HS.out,List.drop_eq_getElem_cons hlt]
            have e1:l[k] = x:=by rw [← HX.out]; simp [List.getD_eq_getElem?_getD,hlt]
            rw [e1,orL,if_neg hx0]
          subst hres
          have hbne:((r:Int) != 0) = true:=by simpa using hx0
          go_wp2
          go_ret
          exact ⟨rfl,rfl⟩
      · obtain rfl:k = l.length:=by omega
        have hres:r = 0:=by rw [← HR.out,orL_skip l.length l hk HS.out,List.drop_length]; rfl
        subst hres
        clear hcell hA
        go_wp2
        go_ret
        exact ⟨rfl,rfl⟩
  · have hl:l = []:=List.eq_nil_of_length_eq_zero (by omega)
    subst hl
    have hres:r = 0:=by rw [← HR.out]; rfl
    subst hres
    clear hA
    go_enter Tryz.func198,Tryz.ntmps198
    go_wp2
    go_loop [8] (fun i=>i = .int .i64 0) (fun i=>0)
    case atStart=>rfl
    case round =>
      subst hrel
      go_wp2
      go_ret
      exact ⟨rfl,rfl⟩
theorem num_ge {d:Int} {l:List Int} (h:1 ≤ d):10 ^ l.length ≤ num (d :: l):=by
  rw [num_cons]
  have:1 * 10 ^ l.length ≤ d.toNat * 10 ^ l.length:=Nat.mul_le_mul_right _ (by omega)
  omega
theorem cmpL_num:∀ {a b:List Int},Dg a→Dg b→a.length = b.length→cmpL a b = cmp3 (num a:Nat) (num b:Nat)
  | [],[],_,_,_=>by rw [cmp3_eq]; rfl
  | [],_ :: _,_,_,h=>by simp at h
  | _ :: _,[],_,_,h=>by simp at h
  | x :: a,y :: b,ha,hb,h=>by
    have hl:a.length = b.length:=by simpa using h
    have da:Dg a:=fun z hz=>ha z (List.mem_cons_of_mem _ hz)
    have db:Dg b:=fun z hz=>hb z (List.mem_cons_of_mem _ hz)
    have hx:=ha x List.mem_cons_self
    have hy:=hb y List.mem_cons_self
    have ih:=cmpL_num da db hl
    have la:=num_lt da
    have lb:=num_lt db
    rw [hl] at la
    rw [cmpL,num_cons,num_cons,hl]
    generalize 10 ^ b.length = p at *
    rcases Int.lt_trichotomy x y with hxy | hxy | hxy
    · rw [cmp3_lt hxy,if_neg (by omega),cmp3_lt]
      have h1:(x.toNat + 1) * p ≤ y.toNat * p:=Nat.mul_le_mul_right _ (by omega)
      rw [Nat.add_mul] at h1
      omega
    · subst hxy
      rw [cmp3_eq,if_pos rfl,ih]
      unfold cmp3
      by_cases h1:num a < num b
      · rw [if_pos (by omega),if_pos (by omega)]
      · by_cases h2:num a = num b
        · rw [if_neg (by omega),if_pos (by omega),if_neg (by omega),if_pos (by omega)]
        · rw [if_neg (by omega),if_neg (by omega),if_neg (by omega),if_neg (by omega)]
    · rw [cmp3_gt hxy,if_neg (by omega),cmp3_gt]
      have h1:(y.toNat + 1) * p ≤ x.toNat * p:=Nat.mul_le_mul_right _ (by omega)
      rw [Nat.add_mul] at h1
      omega
theorem trim_len {a b:List Int} (ha:Dg a) (hb:Dg b) (h:(trimL a).length < (trimL b).length):num a < num b:=by
  rw [← num_trim a,← num_trim b]
  have h1:=num_lt ha.trim
  cases hb':trimL b with
  | nil=>rw [hb'] at h; simp at h
  | cons d r =>
    have hd:=trim_head b d r hb'
    have hd2:=hb.trim d (by rw [hb']; exact List.mem_cons_self)
    have h2:=num_ge (d:=d) (l:=r) (by omega)
    rw [hb'] at h
    have h3:10 ^ (trimL a).length ≤ 10 ^ r.length:=Nat.pow_le_pow_right (by omega) (by simp at h; omega)
    omega
theorem compare_num {a b:List Int} (ha:Dg a) (hb:Dg b):orL [cmp3 ((trimL a).length:Nat) ((trimL b).length:Nat),cmpL (trimL a) (trimL b)] = cmp3 (num a:Nat) (num b:Nat):=by
  unfold orL orL orL
  rcases Nat.lt_trichotomy (trimL a).length (trimL b).length with h | h | h
  · have:=trim_len ha hb h
    rw [cmp3_lt (by omega),if_neg (by omega),cmp3_lt (by omega)]
  · have e:=cmpL_num ha.trim hb.trim h
    rw [num_trim,num_trim] at e
    rw [h,cmp3_eq,if_pos rfl,e]
    split
    · rename_i h0; exact h0.symm
    · rfl
  · have:=trim_len hb ha h
    rw [cmp3_gt (by omega),if_neg (by omega),cmp3_gt (by omega)]
theorem isInts_new (w:World) (e:TypeId) (l:List Int) (n:Nat) (hn:n = l.length) (hl:n ≤ 1000000):IsInts (w.alloc (.cells (ints l).toArray e)) (.slice (some ⟨w.heap.size,0,none⟩) n n) l:=by
  subst hn
  refine ⟨_,l.length,rfl,Nat.le_refl _,by omega,fun _=>⟨w.heap.size,0,rfl,fun j hj=>?_⟩⟩
  have:=heap_alloc_new w (.cells (ints l).toArray e)
  simp only [World.cell?,this,Nat.zero_add]
  rw [List.getElem?_toArray,ints_get l j hj]
  rfl
set_option maxHeartbeats 1000000 in
theorem dcmp_any (v u:Value) (a b:List Int) (w:World) (ha:IsInts w v a) (hb:IsInts w u b) (da:Dg a) (db:Dg b) (la:a.length ≤ 1000000) (lb:b.length ≤ 1000000) :
    Calls Tryz.prog 147 #[v,u] w fun e w'=>e = .returned (.int .i64 (cmp3 (num a:Nat) (num b:Nat)))∧Below w.heap.size w w':=by
  have hc1:=dtrim_any v a w ha la
  have hc2:=fun w1 (hB:Below w.heap.size w w1)=>dtrim_any u b w1 (hb.below hB (Nat.le_refl _)) lb
  have hres:=compare_num da db
  obtain ⟨r,hr⟩:∃ r,cmp3 (num a:Nat) (num b:Nat) = r:=⟨_,rfl⟩
  rw [hr] at hres ⊢
  have HR:=Lib.hid hres
  clear hr hres ha hb
  obtain ⟨ta,hta⟩:∃ ta,trimL a = ta:=⟨_,rfl⟩
  obtain ⟨tb,htb⟩:∃ tb,trimL b = tb:=⟨_,rfl⟩
  have hla:=trimL_le a
  have hlb:=trimL_le b
  rw [hta] at hc1 HR hla
  rw [htb] at hc2 HR hlb
  clear hta htb
  have HC1:=Lib.hid hc1
  have HC2:=Lib.hid hc2
  clear hc1 hc2
  go_enter Tryz.func147,Tryz.ntmps147
  go_wp2_with fail
  refine HC1.out.mono ?_
  rintro e w1 ⟨v1,rfl,o1,B1⟩
  go_wp2_with fail
  refine (HC2.out w1 B1).mono ?_
  rintro e w2 ⟨v2,rfl,o2,B2⟩
  have X:=aside (And.intro ((IsInts.of_own o1).below B2 (Nat.le_refl _)) (And.intro (IsInts.of_own o2) (B1.trans (B2.mono B1.size))))
  obtain ⟨A1,c1,rfl,_,_,_⟩:=IsInts.of_own o1
  obtain ⟨A2,c2,rfl,_,_,_⟩:=IsInts.of_own o2
  clear o1 o2 B1 B2
  go_wp2_with (first
    | (go_at_call 199; refine (cmpc_any _ _ _).mono ?_; rintro e w' ⟨rfl,rfl⟩)
    | (go_at_call 200; refine (scmp_any _ _ ta tb _ X.out.1 X.out.2.1).mono ?_; rintro e w' ⟨rfl,rfl⟩))
  have hO:=cor_any _ [cmp3 ((ta.length:Nat):Int) ((tb.length:Nat):Int),cmpL ta tb] _ (isInts_new w2 3 [cmp3 ((ta.length:Nat):Int) ((tb.length:Nat):Int),cmpL ta tb] 2 rfl (by omega))
  rw [HR.out] at hO
  refine hO.mono ?_
  rintro e w3 ⟨rfl,rfl⟩
  go_wp2
  go_ret
  exact ⟨rfl,X.out.2.2.alloc X.out.2.2.size _⟩
end Go.Proofs.YteiomfgehlojeaaGreatDoor
end
section
namespace Go.Proofs.YteiomfgehlojeaaGreatDoor
open Go.RowKit
theorem wrap_in (x:Int) (h0:-9223372036854775808 ≤ x) (h1:x ≤ 9223372036854775807):IntKind.i64.wrap x = x:=by
  simp [IntKind.wrap,IntKind.bits,IntKind.signed]
  omega
set_option maxHeartbeats 1000000 in
theorem sum1_any (v u:Value) (a b:List Int) (B1 B2:Nat) (i:Nat) (w:World) (ha:IsInts w v a) (hb:IsInts w u b) (h1:w.cell? ⟨B1,0,none⟩ = some v) (h2:w.cell? ⟨B2,0,none⟩ = some u) (da:Dg a) (db:Dg b) (hi:i ≤ 1000000) :
    Calls Tryz.prog 480 #[.int .i64 i, .pointer (some ⟨B1,0,none⟩), .pointer (some ⟨B2,0,none⟩)] w fun e w'=>e = .returned (.int .i64 (fromL a i + fromL b i))∧∃ q,w' = w.drewN q:=by
  have hf1:=fun q=>from_any v a i (w.drewN q) (ha.drewN q) (by omega)
  have hf2:=fun q=>from_any u b i (w.drewN q) (hb.drewN q) (by omega)
  have fa:=fromL_dg da i
  have fb:=fromL_dg db i
  obtain ⟨x,hx⟩:∃ x,fromL a i = x:=⟨_,rfl⟩
  obtain ⟨y,hy⟩:∃ y,fromL b i = y:=⟨_,rfl⟩
  rw [hx] at hf1 fa ⊢
  rw [hy] at hf2 fb ⊢
  clear hx hy da db
  obtain ⟨A,c,rfl,_,_,_⟩:=ha
  obtain ⟨B,d,rfl,_,_,_⟩:=hb
  go_enter Tryz.func480,Tryz.ntmps480
  go_wp2
  have hf:∀ (V:Value) (r:Int) (q:Nat),(V = .slice A a.length c∧r = x)∨(V = .slice B b.length d∧r = y)→Calls Tryz.prog 479 #[V, .int .i64 i] (w.drewN q) fun e w'=>e = .returned (.int .i64 r)∧w.drewN q = w':=by
    rintro V r q (⟨rfl,rfl⟩ | ⟨rfl,rfl⟩)
    · exact hf1 q
    · exact hf2 q
  clear hf1 hf2
  have hw:IntKind.i64.wrap (x + y) = x + y:=wrap_in _ (by omega) (by omega)
  go_region_with (go_at_call 479; refine (hf _ _ _ (by first | exact .inl ⟨rfl,rfl⟩ | exact .inr ⟨rfl,rfl⟩)).mono ?_; rintro e w' ⟨rfl,rfl⟩)
  all_goals (go_wp2; go_ret; exact ⟨rfl,_,rfl⟩)
set_option maxHeartbeats 1000000 in
theorem sub1_any (v u:Value) (a b:List Int) (B1 B2:Nat) (i:Nat) (w:World) (ha:IsInts w v a) (hb:IsInts w u b) (h1:w.cell? ⟨B1,0,none⟩ = some v) (h2:w.cell? ⟨B2,0,none⟩ = some u) (da:Dg a) (db:Dg b) (hi:i ≤ 1000000) :
    Calls Tryz.prog 481 #[.int .i64 i, .pointer (some ⟨B1,0,none⟩), .pointer (some ⟨B2,0,none⟩)] w fun e w'=>e = .returned (.int .i64 (fromL a i - fromL b i))∧∃ q,w' = w.drewN q:=by
  have hf1:=fun q=>from_any v a i (w.drewN q) (ha.drewN q) (by omega)
  have hf2:=fun q=>from_any u b i (w.drewN q) (hb.drewN q) (by omega)
  have fa:=fromL_dg da i
  have fb:=fromL_dg db i
  obtain ⟨x,hx⟩:∃ x,fromL a i = x:=⟨_,rfl⟩
  obtain ⟨y,hy⟩:∃ y,fromL b i = y:=⟨_,rfl⟩
  rw [hx] at hf1 fa ⊢
  rw [hy] at hf2 fb ⊢
  clear hx hy da db
  obtain ⟨A,c,rfl,_,_,_⟩:=ha
  obtain ⟨B,d,rfl,_,_,_⟩:=hb
  go_enter Tryz.func481,Tryz.ntmps481
  go_wp2
  have hf:∀ (V:Value) (r:Int) (q:Nat),(V = .slice A a.length c∧r = x)∨(V = .slice B b.length d∧r = y)→Calls Tryz.prog 479 #[V, .int .i64 i] (w.drewN q) fun e w'=>e = .returned (.int .i64 r)∧w.drewN q = w':=by
    rintro V r q (⟨rfl,rfl⟩ | ⟨rfl,rfl⟩)
    · exact hf1 q
    · exact hf2 q
  clear hf1 hf2
  have hw:IntKind.i64.wrap (x - y) = x - y:=wrap_in _ (by omega) (by omega)
  go_region_with (go_at_call 479; refine (hf _ _ _ (by first | exact .inl ⟨rfl,rfl⟩ | exact .inr ⟨rfl,rfl⟩)).mono ?_; rintro e w' ⟨rfl,rfl⟩)
  all_goals (go_wp2; go_ret; exact ⟨rfl,_,rfl⟩)
set_option maxHeartbeats 1000000 in
theorem times1_any (v:Value) (a:List Int) (m:Nat) (B1 B2:Nat) (i:Nat) (w:World) (ha:IsInts w v a) (h1:w.cell? ⟨B1,0,none⟩ = some (.int .i64 m)) (h2:w.cell? ⟨B2,0,none⟩ = some v) (da:Dg a) (hi:i ≤ 1000000) (hm:m ≤ 1000) :
    Calls Tryz.prog 478 #[.int .i64 i, .pointer (some ⟨B1,0,none⟩), .pointer (some ⟨B2,0,none⟩)] w fun e w'=>e = .returned (.int .i64 ((m:Int) * fromL a i))∧∃ q,w' = w.drewN q:=by
  have hf:=fun q=>from_any v a i (w.drewN q) (ha.drewN q) (by omega)
  have fa:=fromL_dg da i
  obtain ⟨x,hx⟩:∃ x,fromL a i = x:=⟨_,rfl⟩
  rw [hx] at hf fa ⊢
  clear hx da
  obtain ⟨A,c,rfl,_,_,_⟩:=ha
  go_enter Tryz.func478,Tryz.ntmps478
  go_wp2
  have hm1:(m:Int) * x ≤ (m:Int) * 9:=Int.mul_le_mul_of_nonneg_left (by omega) (by omega)
  have hm0:0 ≤ (m:Int) * x:=Int.mul_nonneg (by omega) (by omega)
  have hw:IntKind.i64.wrap ((m:Int) * x) = (m:Int) * x:=wrap_in _ (by omega) (by omega)
  go_region_with (go_at_call 479; refine (hf _).mono ?_; rintro e w' ⟨rfl,rfl⟩)
  all_goals (go_wp2; go_ret; exact ⟨rfl,_,rfl⟩)
theorem reverse_own (B:Nat) (v:Value) (o:List Int) (w:World) (h:w.ownsRow B 3 1 v o.length (ints o)) (hl:o.length ≤ 1000000) :
    Calls Tryz.prog 485 #[v] w fun e w'=>e = .returned (.tuple #[])∧IsInts w' v o.reverse∧∀ X n,n ≤ B→Below n X w→Below n X w':=by
  have hI:=IsInts.of_own h
  rcases h.2 with ⟨rfl,h0⟩ | ⟨g,cap,cur,rfl,hB,hg,h1,h2,h3,h4⟩
  · obtain rfl:o = []:=List.eq_nil_of_length_eq_zero h0
    refine (Tryz.slices_Reverse_int_empty none 0 w).mono ?_
    rintro e w' ⟨rfl,rfl⟩
    exact ⟨rfl,hI,fun X n _ hb=>hb⟩
  · obtain ⟨A,c,he,hlc,hcm,hA⟩:=hI
    injection he with e1 e2 e3
    subst e1; subst e3
    by_cases hp:0 < o.length
    · obtain ⟨b,off,hbo,hcell⟩:=hA hp
      injection hbo with hbo
      injection hbo with e4 e5
      subst e4; subst e5
      refine (Tryz.slices_Reverse_int_cells g 0 o.length cap o w (Nat.le_refl _) (by omega) hcell (fun j _=>by simp [World.frozen?,hg])).mono ?_
      rintro e w' ⟨rfl,q,rfl⟩
      rw [List.take_length]
      refine ⟨rfl,⟨_,cap,by rw [List.length_reverse],by rw [List.length_reverse]; exact hlc,hcm,fun _=>⟨g,0,rfl,fun j hj=>?_⟩⟩,fun X n hn hb=>?_⟩
      · rw [List.length_reverse] at hj
        have:=World.cell?_setCells_in g (o.reverse.map (Value.int .i64)) 0 (w.drewN q) (fun k hk=>by
          have hk':k < o.length:=by simpa using hk
          have hc:=hcell k hk'
          show (w.cell? ⟨g,0 + k,none⟩).isSome = true
          rw [hc]; rfl) j (by simpa using hj)
        rw [this]
        simp [List.getD_eq_getElem?_getD,hj]
      · exact Lib.below_setCells g (by omega) _ _ (show Below n X (w.drewN q) from ⟨hb.os,hb.tape,hb.output,hb.size,hb.block⟩)
    · obtain rfl:o = []:=List.eq_nil_of_length_eq_zero (by omega)
      refine (Tryz.slices_Reverse_int_empty _ cap w).mono ?_
      rintro e w' ⟨rfl,rfl⟩
      exact ⟨rfl,⟨_,cap,rfl,Nat.zero_le _,hcm,fun h=>absurd h (by simp)⟩,fun X n _ hb=>hb⟩
theorem info_int:(Tryz.prog.info? 3).map (fun i=>(i.zero,i.size,i.bytes)) = some (some (.int .i64 0),1,8):=by kernel_rfl
end Go.Proofs.YteiomfgehlojeaaGreatDoor
end
section
namespace Go.Proofs.YteiomfgehlojeaaGreatDoor
open Go.RowKit
theorem Dg.snoc {o:List Int} (h:Dg o) {d:Int} (h0:0 ≤ d) (h1:d ≤ 9):Dg (o ++ [d]):=h.append (Dg.one h0 h1)
theorem tmod10 (r:Int) (h:0 ≤ r):r.tmod 10 = r % 10:=Int.tmod_eq_emod_of_nonneg h
theorem tdiv10 (r:Int) (h:0 ≤ r):r.tdiv 10 = r / 10:=Int.tdiv_eq_ediv_of_nonneg h
set_option maxHeartbeats 4000000 in
theorem carry_sum (f:Nat→Int) (n:Nat) (u1 u2:Value) (w:World) (hn:n ≤ 100000) (hb:∀ i,i < n→-10000 ≤ f i∧f i ≤ 10000) (ht:0 ≤ totI f n)
    (hf:∀ W,Below w.heap.size w W→∀ i,i < n→Calls Tryz.prog 480 #[.int .i64 (i:Nat),u1,u2] W fun e w'=>e = .returned (.int .i64 (f i))∧∃ q,w' = W.drewN q) :
    Calls Tryz.prog 477 #[.int .i64 n, .func (.func 480) #[] #[u1,u2]] w fun e w'=>∃ v',e = .returned v'∧w'.ownsRow w.heap.size 3 1 v' (digs (totI f n).toNat).length (ints (digs (totI f n).toNat))∧Below w.heap.size w w':=by
  obtain ⟨i0,hi,hz0,hz1,hz2⟩:=info_parts info_int
  have HF:=Lib.hid hf
  have HB:=Lib.hid hb
  have HT:=Lib.hid ht
  clear hf hb ht
  obtain ⟨dd,hdd⟩:∃ dd,digs (totI f n).toNat = dd:=⟨_,rfl⟩
  rw [hdd]
  have HDD:=Lib.hid hdd
  clear hdd
  go_enter Tryz.func477,Tryz.ntmps477
  go_wp2
  go_loopw [5,6,10] (fun v r i wr=>∃ (k:Nat) (o:List Int) (rest:Int),i = .int .i64 k∧r = .int .i64 rest∧k ≤ n∧o.length = k∧-10000 ≤ rest∧rest ≤ 10000∧wr.ownsRow w.heap.size 3 1 v k (ints o)∧Below w.heap.size w wr∧Aside (Dg o∧lowI o + rest * 10 ^ k = totI f k)) (fun _ _ i _=>n - (intOf i).toNat)
  case atStart=>exact ⟨0,[],0,rfl,rfl,Nat.zero_le _,rfl,by omega,by omega,World.ownsRow_nil _ _ _ _,Below.refl _ _,Dg.nil,by simp [lowI_nil,totI]⟩
  case round =>
    obtain ⟨k,o,rest,rfl,rfl,hk,hol,hr0,hr1,hown,hBw,HA⟩:=hrel
    by_cases hlt:k < n
    · have hc:=HF.out _ hBw k hlt
      have hbd:=HB.out k hlt
      obtain ⟨x,hx⟩:∃ x,f k = x:=⟨_,rfl⟩
      rw [hx] at hc hbd
      have HX:=Lib.hid hx
      clear hx
      obtain ⟨y,hy⟩:∃ y,rest + x = y:=⟨_,rfl⟩
      have hw1:IntKind.i64.wrap (rest + x) = y:=by rw [hy]; exact wrap_in _ (by omega) (by omega)
      obtain ⟨d,hd⟩:∃ d,y % 10 = d:=⟨_,rfl⟩
      have hd0:0 ≤ d∧d ≤ 9:=by omega
      have hm1:(y.tmod 10 + 10).tmod 10 = d:=by rw [carry_mod]; exact hd
      have hml:-10 < y.tmod 10∧y.tmod 10 < 10:=by
        constructor
        · have:=Int.lt_tmod_of_pos y (show (0:Int) < 10 by omega); omega
        · exact Int.tmod_lt_of_pos y (by omega)
      have hw2:IntKind.i64.wrap (y.tmod 10) = y.tmod 10:=wrap_in _ (by omega) (by omega)
      have hw3:IntKind.i64.wrap (y.tmod 10 + 10) = y.tmod 10 + 10:=wrap_in _ (by omega) (by omega)
      have hw4:IntKind.i64.wrap d = d:=wrap_in _ (by omega) (by omega)
      obtain ⟨q,hq⟩:∃ q,y / 10 = q:=⟨_,rfl⟩
      have hq1:(y - d).tdiv 10 = q:=by rw [← hd,carry_div]; exact hq
      have hw5:IntKind.i64.wrap (y - d) = y - d:=wrap_in _ (by omega) (by omega)
      have hw6:IntKind.i64.wrap q = q:=wrap_in _ (by omega) (by omega)
      have hqb:-10000 ≤ q∧q ≤ 10000:=by omega
      have HN:Hid (Dg (o ++ [d])∧lowI (o ++ [d]) + q * 10 ^ (k + 1) = totI f (k + 1)):=by
        refine ⟨HA.out.1.snoc hd0.1 hd0.2,?_⟩
        rw [← hd,← hq,← hy,← HX.out]
        exact carry_step HA.out.2 hol
      have hsz:=hBw.size
      clear hd hq hy
      go_wp2_with (first
        | (refine hc.mono ?_; rintro e w2 ⟨rfl,qq,rfl⟩)
        | (at_builtin
           refine wpList_append_own _ rfl _ _ 24 rfl w.heap.size 3 i0 (.int .i64 0) 1 8 Tryz.underlying24 hi hz0 hz1 hz2 rfl (by decide) _ _ _ rfl ((own_drewN hown _).alloc _) ⟨(wr.drewN qq).heap.size,0,none⟩ 1 1 [.int .i64 d] rfl rfl (cell_one_new _ _ _) (fun x hx=>by simp at hx; subst hx; rfl) (by unfold maxLen; omega) (by omega) (by simp; omega) ?_
           intro v' w3 hown' hgrow hnil
           have X5:Aside (w3.ownsRow w.heap.size 3 1 v' (k + 1) (ints (o ++ [d]))∧Below w.heap.size w w3):=by
             refine ⟨by rw [ints_append]; exact hown',?_⟩
             have hb1:Below w.heap.size w (wr.drewN qq):=⟨hBw.os,hBw.tape,hBw.output,hBw.size,hBw.block⟩
             exact (hb1.alloc hsz _).grown hgrow (by simp; omega) (fun j hj=>(hown.lt j hj).1)
           clear hown' hgrow hnil))
      go_roundw
      case rel=>exact ⟨k + 1,o ++ [d],q,by go_num,rfl,by omega,by simp [hol],by omega,by omega,X5.out.1,X5.out.2,HN.out⟩
      case measure=>simp [intOf]; omega
    · obtain rfl:k = n:=by omega
      have hr:=carry_rest HA.out.1 (by rw [hol]; exact HA.out.2) HT.out
      have HA2:Hid (Dg o∧lowI o + rest * 10 ^ o.length = totI f k):=⟨HA.out.1,by rw [hol]; exact HA.out.2⟩
      rw [← hol] at hown
      clear HA
      go_wp2
      go_loopw [5,6] (fun v r wr=>∃ (o:List Int) (rest:Int),r = .int .i64 rest∧0 ≤ rest∧rest ≤ 10000∧(o.length:Int) + rest ≤ (k:Int) + 10000∧wr.ownsRow w.heap.size 3 1 v o.length (ints o)∧Below w.heap.size w wr∧Aside (Dg o∧lowI o + rest * 10 ^ o.length = totI f k)) (fun _ r _=>(intOf r).toNat)
      case atStart=>exact ⟨o,rest,rfl,hr,hr1,by omega,hown,hBw,HA2.out⟩
      case round =>
        obtain ⟨o2,r2,rfl,hr20,hr21,hsum,hown2,hBw2,HA3⟩:=hrel
        by_cases hp:0 < r2
        · obtain ⟨d,hd⟩:∃ d,r2 % 10 = d:=⟨_,rfl⟩
          obtain ⟨q,hq⟩:∃ q,r2 / 10 = q:=⟨_,rfl⟩
          have hm1:r2.tmod 10 = d:=by rw [tmod10 _ (by omega)]; exact hd
          have hq1:r2.tdiv 10 = q:=by rw [tdiv10 _ (by omega)]; exact hq
          have hd0:0 ≤ d∧d ≤ 9:=by omega
          have hqb:0 ≤ q∧q < r2:=by omega
          have hw4:IntKind.i64.wrap d = d:=wrap_in _ (by omega) (by omega)
          have hw6:IntKind.i64.wrap q = q:=wrap_in _ (by omega) (by omega)
          have HN:Hid (Dg (o2 ++ [d])∧lowI (o2 ++ [d]) + q * 10 ^ (o2 ++ [d]).length = totI f k):=by
            refine ⟨HA3.out.1.snoc hd0.1 hd0.2,?_⟩
            rw [← hd,← hq]
            exact carry_more HA3.out.2 (by omega)
          have hsz:=hBw2.size
          clear hd hq
          go_wp2_with (first
            | (at_builtin
               refine wpList_append_own _ rfl _ _ 24 rfl w.heap.size 3 i0 (.int .i64 0) 1 8 Tryz.underlying24 hi hz0 hz1 hz2 rfl (by decide) _ _ _ rfl (hown2.alloc _) ⟨_,0,none⟩ 1 1 [.int .i64 d] rfl rfl (cell_one_new _ _ _) (fun x hx=>by simp at hx; subst hx; rfl) (by unfold maxLen; omega) (by omega) (by simp; omega) ?_
               intro v' w3 hown' hgrow hnil
               have X5:Aside (w3.ownsRow w.heap.size 3 1 v' (o2.length + 1) (ints (o2 ++ [d]))∧Below w.heap.size w w3):=by
                 refine ⟨by rw [ints_append]; exact hown',?_⟩
                 exact (hBw2.alloc hsz _).grown hgrow (by simp; omega) (fun j hj=>(hown2.lt j hj).1)
               clear hown' hgrow hnil))
          go_roundw
          case rel=>exact ⟨o2 ++ [d],q,rfl,by omega,by omega,by simp; omega,by rw [List.length_append]; exact X5.out.1,X5.out.2,HN.out⟩
          case measure=>simp [intOf]; omega
        · obtain rfl:r2 = 0:=by omega
          have hend:=carry_end0 HA3.out.1 HA3.out.2
          have hrev:=reverse_own w.heap.size _ o2 _ hown2 (by omega)
          rw [HDD.out] at hend
          have HE:=Lib.hid hend
          have HR:=Lib.hid hrev
          have hsz:=hBw2.size
          have X:=aside hBw2
          clear hend hrev hBw2 HA3 hown2 hown HA2
          go_wp2_with (go_at_call 485; refine HR.out.mono ?_; rintro e w5 ⟨rfl,hi5,hb5⟩)
          have X5:=aside (And.intro hi5 (hb5 w w.heap.size (Nat.le_refl _) X.out))
          have ht:=dtrim_any _ _ _ X5.out.1 (by rw [List.length_reverse]; omega)
          rw [HE.out] at ht
          have HTT:=Lib.hid ht
          clear ht hi5 hb5
          go_wp2_with (go_at_call 54; refine HTT.out.mono ?_; rintro e w6 ⟨v6,rfl,o6,b6⟩)
          go_ret
          exact ⟨_,rfl,own_base o6 X5.out.2.size,X5.out.2.trans (b6.mono X5.out.2.size)⟩
set_option maxHeartbeats 4000000 in
theorem carry_sub (f:Nat→Int) (n:Nat) (u1 u2:Value) (w:World) (hn:n ≤ 100000) (hb:∀ i,i < n→-10000 ≤ f i∧f i ≤ 10000) (ht:0 ≤ totI f n)
    (hf:∀ W,Below w.heap.size w W→∀ i,i < n→Calls Tryz.prog 481 #[.int .i64 (i:Nat),u1,u2] W fun e w'=>e = .returned (.int .i64 (f i))∧∃ q,w' = W.drewN q) :
    Calls Tryz.prog 477 #[.int .i64 n, .func (.func 481) #[] #[u1,u2]] w fun e w'=>∃ v',e = .returned v'∧w'.ownsRow w.heap.size 3 1 v' (digs (totI f n).toNat).length (ints (digs (totI f n).toNat))∧Below w.heap.size w w':=by
  obtain ⟨i0,hi,hz0,hz1,hz2⟩:=info_parts info_int
  have HF:=Lib.hid hf
  have HB:=Lib.hid hb
  have HT:=Lib.hid ht
  clear hf hb ht
  obtain ⟨dd,hdd⟩:∃ dd,digs (totI f n).toNat = dd:=⟨_,rfl⟩
  rw [hdd]
  have HDD:=Lib.hid hdd
  clear hdd
  go_enter Tryz.func477,Tryz.ntmps477
  go_wp2
  go_loopw [5,6,10] (fun v r i wr=>∃ (k:Nat) (o:List Int) (rest:Int),i = .int .i64 k∧r = .int .i64 rest∧k ≤ n∧o.length = k∧-10000 ≤ rest∧rest ≤ 10000∧wr.ownsRow w.heap.size 3 1 v k (ints o)∧Below w.heap.size w wr∧Aside (Dg o∧lowI o + rest * 10 ^ k = totI f k)) (fun _ _ i _=>n - (intOf i).toNat)
  case atStart=>exact ⟨0,[],0,rfl,rfl,Nat.zero_le _,rfl,by omega,by omega,World.ownsRow_nil _ _ _ _,Below.refl _ _,Dg.nil,by simp [lowI_nil,totI]⟩
  case round =>
    obtain ⟨k,o,rest,rfl,rfl,hk,hol,hr0,hr1,hown,hBw,HA⟩:=hrel
    by_cases hlt:k < n
    · have hc:=HF.out _ hBw k hlt
      have hbd:=HB.out k hlt
      obtain ⟨x,hx⟩:∃ x,f k = x:=⟨_,rfl⟩
      rw [hx] at hc hbd
      have HX:=Lib.hid hx
      clear hx
      obtain ⟨y,hy⟩:∃ y,rest + x = y:=⟨_,rfl⟩
      have hw1:IntKind.i64.wrap (rest + x) = y:=by rw [hy]; exact wrap_in _ (by omega) (by omega)
      obtain ⟨d,hd⟩:∃ d,y % 10 = d:=⟨_,rfl⟩
      have hd0:0 ≤ d∧d ≤ 9:=by omega
      have hm1:(y.tmod 10 + 10).tmod 10 = d:=by rw [carry_mod]; exact hd
      have hml:-10 < y.tmod 10∧y.tmod 10 < 10:=by
        constructor
        · have:=Int.lt_tmod_of_pos y (show (0:Int) < 10 by omega); omega
        · exact Int.tmod_lt_of_pos y (by omega)
      have hw2:IntKind.i64.wrap (y.tmod 10) = y.tmod 10:=wrap_in _ (by omega) (by omega)
      have hw3:IntKind.i64.wrap (y.tmod 10 + 10) = y.tmod 10 + 10:=wrap_in _ (by omega) (by omega)
      have hw4:IntKind.i64.wrap d = d:=wrap_in _ (by omega) (by omega)
      obtain ⟨q,hq⟩:∃ q,y / 10 = q:=⟨_,rfl⟩
      have hq1:(y - d).tdiv 10 = q:=by rw [← hd,carry_div]; exact hq
      have hw5:IntKind.i64.wrap (y - d) = y - d:=wrap_in _ (by omega) (by omega)
      have hw6:IntKind.i64.wrap q = q:=wrap_in _ (by omega) (by omega)
      have hqb:-10000 ≤ q∧q ≤ 10000:=by omega
      have HN:Hid (Dg (o ++ [d])∧lowI (o ++ [d]) + q * 10 ^ (k + 1) = totI f (k + 1)):=by
        refine ⟨HA.out.1.snoc hd0.1 hd0.2,?_⟩
        rw [← hd,← hq,← hy,← HX.out]
        exact carry_step HA.out.2 hol
      have hsz:=hBw.size
      clear hd hq hy
      go_wp2_with (first
        | (refine hc.mono ?_; rintro e w2 ⟨rfl,qq,rfl⟩)
        | (at_builtin
           refine wpList_append_own _ rfl _ _ 24 rfl w.heap.size 3 i0 (.int .i64 0) 1 8 Tryz.underlying24 hi hz0 hz1 hz2 rfl (by decide) _ _ _ rfl ((own_drewN hown _).alloc _) ⟨(wr.drewN qq).heap.size,0,none⟩ 1 1 [.int .i64 d] rfl rfl (cell_one_new _ _ _) (fun x hx=>by simp at hx; subst hx; rfl) (by unfold maxLen; omega) (by omega) (by simp; omega) ?_
           intro v' w3 hown' hgrow hnil
           have X5:Aside (w3.ownsRow w.heap.size 3 1 v' (k + 1) (ints (o ++ [d]))∧Below w.heap.size w w3):=by
             refine ⟨by rw [ints_append]; exact hown',?_⟩
             have hb1:Below w.heap.size w (wr.drewN qq):=⟨hBw.os,hBw.tape,hBw.output,hBw.size,hBw.block⟩
             exact (hb1.alloc hsz _).grown hgrow (by simp; omega) (fun j hj=>(hown.lt j hj).1)
           clear hown' hgrow hnil))
      go_roundw
      case rel=>exact ⟨k + 1,o ++ [d],q,by go_num,rfl,by omega,by simp [hol],by omega,by omega,X5.out.1,X5.out.2,HN.out⟩
      case measure=>simp [intOf]; omega
    · obtain rfl:k = n:=by omega
      have hr:=carry_rest HA.out.1 (by rw [hol]; exact HA.out.2) HT.out
      have HA2:Hid (Dg o∧lowI o + rest * 10 ^ o.length = totI f k):=⟨HA.out.1,by rw [hol]; exact HA.out.2⟩
      rw [← hol] at hown
      clear HA
      go_wp2
      go_loopw [5,6] (fun v r wr=>∃ (o:List Int) (rest:Int),r = .int .i64 rest∧0 ≤ rest∧rest ≤ 10000∧(o.length:Int) + rest ≤ (k:Int) + 10000∧wr.ownsRow w.heap.size 3 1 v o.length (ints o)∧Below w.heap.size w wr∧Aside (Dg o∧lowI o + rest * 10 ^ o.length = totI f k)) (fun _ r _=>(intOf r).toNat)
      case atStart=>exact ⟨o,rest,rfl,hr,hr1,by omega,hown,hBw,HA2.out⟩
      case round =>
        obtain ⟨o2,r2,rfl,hr20,hr21,hsum,hown2,hBw2,HA3⟩:=hrel
        by_cases hp:0 < r2
        · obtain ⟨d,hd⟩:∃ d,r2 % 10 = d:=⟨_,rfl⟩
          obtain ⟨q,hq⟩:∃ q,r2 / 10 = q:=⟨_,rfl⟩
          have hm1:r2.tmod 10 = d:=by rw [tmod10 _ (by omega)]; exact hd
          have hq1:r2.tdiv 10 = q:=by rw [tdiv10 _ (by omega)]; exact hq
          have hd0:0 ≤ d∧d ≤ 9:=by omega
          have hqb:0 ≤ q∧q < r2:=by omega
          have hw4:IntKind.i64.wrap d = d:=wrap_in _ (by omega) (by omega)
          have hw6:IntKind.i64.wrap q = q:=wrap_in _ (by omega) (by omega)
          have HN:Hid (Dg (o2 ++ [d])∧lowI (o2 ++ [d]) + q * 10 ^ (o2 ++ [d]).length = totI f k):=by
            refine ⟨HA3.out.1.snoc hd0.1 hd0.2,?_⟩
            rw [← hd,← hq]
            exact carry_more HA3.out.2 (by omega)
          have hsz:=hBw2.size
          clear hd hq
          go_wp2_with (first
            | (at_builtin
               refine wpList_append_own _ rfl _ _ 24 rfl w.heap.size 3 i0 (.int .i64 0) 1 8 Tryz.underlying24 hi hz0 hz1 hz2 rfl (by decide) _ _ _ rfl (hown2.alloc _) ⟨_,0,none⟩ 1 1 [.int .i64 d] rfl rfl (cell_one_new _ _ _) (fun x hx=>by simp at hx; subst hx; rfl) (by unfold maxLen; omega) (by omega) (by simp; omega) ?_
               intro v' w3 hown' hgrow hnil
               have X5:Aside (w3.ownsRow w.heap.size 3 1 v' (o2.length + 1) (ints (o2 ++ [d]))∧Below w.heap.size w w3):=by
                 refine ⟨by rw [ints_append]; exact hown',?_⟩
                 exact (hBw2.alloc hsz _).grown hgrow (by simp; omega) (fun j hj=>(hown2.lt j hj).1)
               clear hown' hgrow hnil))
          go_roundw
          case rel=>exact ⟨o2 ++ [d],q,rfl,by omega,by omega,by simp; omega,by rw [List.length_append]; exact X5.out.1,X5.out.2,HN.out⟩
          case measure=>simp [intOf]; omega
        · obtain rfl:r2 = 0:=by omega
          have hend:=carry_end0 HA3.out.1 HA3.out.2
          have hrev:=reverse_own w.heap.size _ o2 _ hown2 (by omega)
          rw [HDD.out] at hend
          have HE:=Lib.hid hend
          have HR:=Lib.hid hrev
          have hsz:=hBw2.size
          have X:=aside hBw2
          clear hend hrev hBw2 HA3 hown2 hown HA2
          go_wp2_with (go_at_call 485; refine HR.out.mono ?_; rintro e w5 ⟨rfl,hi5,hb5⟩)
          have X5:=aside (And.intro hi5 (hb5 w w.heap.size (Nat.le_refl _) X.out))
          have ht:=dtrim_any _ _ _ X5.out.1 (by rw [List.length_reverse]; omega)
          rw [HE.out] at ht
          have HTT:=Lib.hid ht
          clear ht hi5 hb5
          go_wp2_with (go_at_call 54; refine HTT.out.mono ?_; rintro e w6 ⟨v6,rfl,o6,b6⟩)
          go_ret
          exact ⟨_,rfl,own_base o6 X5.out.2.size,X5.out.2.trans (b6.mono X5.out.2.size)⟩
set_option maxHeartbeats 4000000 in
theorem carry_times (f:Nat→Int) (n:Nat) (u1 u2:Value) (w:World) (hn:n ≤ 100000) (hb:∀ i,i < n→-10000 ≤ f i∧f i ≤ 10000) (ht:0 ≤ totI f n)
    (hf:∀ W,Below w.heap.size w W→∀ i,i < n→Calls Tryz.prog 478 #[.int .i64 (i:Nat),u1,u2] W fun e w'=>e = .returned (.int .i64 (f i))∧∃ q,w' = W.drewN q) :
    Calls Tryz.prog 477 #[.int .i64 n, .func (.func 478) #[] #[u1,u2]] w fun e w'=>∃ v',e = .returned v'∧w'.ownsRow w.heap.size 3 1 v' (digs (totI f n).toNat).length (ints (digs (totI f n).toNat))∧Below w.heap.size w w':=by
  obtain ⟨i0,hi,hz0,hz1,hz2⟩:=info_parts info_int
  have HF:=Lib.hid hf
  have HB:=Lib.hid hb
  have HT:=Lib.hid ht
  clear hf hb ht
  obtain ⟨dd,hdd⟩:∃ dd,digs (totI f n).toNat = dd:=⟨_,rfl⟩
  rw [hdd]
  have HDD:=Lib.hid hdd
  clear hdd
  go_enter Tryz.func477,Tryz.ntmps477
  go_wp2
  go_loopw [5,6,10] (fun v r i wr=>∃ (k:Nat) (o:List Int) (rest:Int),i = .int .i64 k∧r = .int .i64 rest∧k ≤ n∧o.length = k∧-10000 ≤ rest∧rest ≤ 10000∧wr.ownsRow w.heap.size 3 1 v k (ints o)∧Below w.heap.size w wr∧Aside (Dg o∧lowI o + rest * 10 ^ k = totI f k)) (fun _ _ i _=>n - (intOf i).toNat)
  case atStart=>exact ⟨0,[],0,rfl,rfl,Nat.zero_le _,rfl,by omega,by omega,World.ownsRow_nil _ _ _ _,Below.refl _ _,Dg.nil,by simp [lowI_nil,totI]⟩
  case round =>
    obtain ⟨k,o,rest,rfl,rfl,hk,hol,hr0,hr1,hown,hBw,HA⟩:=hrel
    by_cases hlt:k < n
    · have hc:=HF.out _ hBw k hlt
      have hbd:=HB.out k hlt
      obtain ⟨x,hx⟩:∃ x,f k = x:=⟨_,rfl⟩
      rw [hx] at hc hbd
      have HX:=Lib.hid hx
      clear hx
      obtain ⟨y,hy⟩:∃ y,rest + x = y:=⟨_,rfl⟩
      have hw1:IntKind.i64.wrap (rest + x) = y:=by rw [hy]; exact wrap_in _ (by omega) (by omega)
      obtain ⟨d,hd⟩:∃ d,y % 10 = d:=⟨_,rfl⟩
      have hd0:0 ≤ d∧d ≤ 9:=by omega
      have hm1:(y.tmod 10 + 10).tmod 10 = d:=by rw [carry_mod]; exact hd
      have hml:-10 < y.tmod 10∧y.tmod 10 < 10:=by
        constructor
        · have:=Int.lt_tmod_of_pos y (show (0:Int) < 10 by omega); omega
        · exact Int.tmod_lt_of_pos y (by omega)
      have hw2:IntKind.i64.wrap (y.tmod 10) = y.tmod 10:=wrap_in _ (by omega) (by omega)
      have hw3:IntKind.i64.wrap (y.tmod 10 + 10) = y.tmod 10 + 10:=wrap_in _ (by omega) (by omega)
      have hw4:IntKind.i64.wrap d = d:=wrap_in _ (by omega) (by omega)
      obtain ⟨q,hq⟩:∃ q,y / 10 = q:=⟨_,rfl⟩
      have hq1:(y - d).tdiv 10 = q:=by rw [← hd,carry_div]; exact hq
      have hw5:IntKind.i64.wrap (y - d) = y - d:=wrap_in _ (by omega) (by omega)
      have hw6:IntKind.i64.wrap q = q:=wrap_in _ (by omega) (by omega)
      have hqb:-10000 ≤ q∧q ≤ 10000:=by omega
      have HN:Hid (Dg (o ++ [d])∧lowI (o ++ [d]) + q * 10 ^ (k + 1) = totI f (k + 1)):=by
        refine ⟨HA.out.1.snoc hd0.1 hd0.2,?_⟩
        rw [← hd,← hq,← hy,← HX.out]
        exact carry_step HA.out.2 hol
      have hsz:=hBw.size
      clear hd hq hy
      go_wp2_with (first
        | (refine hc.mono ?_; rintro e w2 ⟨rfl,qq,rfl⟩)
        | (at_builtin
           refine wpList_append_own _ rfl _ _ 24 rfl w.heap.size 3 i0 (.int .i64 0) 1 8 Tryz.underlying24 hi hz0 hz1 hz2 rfl (by decide) _ _ _ rfl ((own_drewN hown _).alloc _) ⟨(wr.drewN qq).heap.size,0,none⟩ 1 1 [.int .i64 d] rfl rfl (cell_one_new _ _ _) (fun x hx=>by simp at hx; subst hx; rfl) (by unfold maxLen; omega) (by omega) (by simp; omega) ?_
           intro v' w3 hown' hgrow hnil
           have X5:Aside (w3.ownsRow w.heap.size 3 1 v' (k + 1) (ints (o ++ [d]))∧Below w.heap.size w w3):=by
             refine ⟨by rw [ints_append]; exact hown',?_⟩
             have hb1:Below w.heap.size w (wr.drewN qq):=⟨hBw.os,hBw.tape,hBw.output,hBw.size,hBw.block⟩
             exact (hb1.alloc hsz _).grown hgrow (by simp; omega) (fun j hj=>(hown.lt j hj).1)
           clear hown' hgrow hnil))
      go_roundw
      case rel=>exact ⟨k + 1,o ++ [d],q,by go_num,rfl,by omega,by simp [hol],by omega,by omega,X5.out.1,X5.out.2,HN.out⟩
      case measure=>simp [intOf]; omega
    · obtain rfl:k = n:=by omega
      have hr:=carry_rest HA.out.1 (by rw [hol]; exact HA.out.2) HT.out
      have HA2:Hid (Dg o∧lowI o + rest * 10 ^ o.length = totI f k):=⟨HA.out.1,by rw [hol]; exact HA.out.2⟩
      rw [← hol] at hown
      clear HA
      go_wp2
      go_loopw [5,6] (fun v r wr=>∃ (o:List Int) (rest:Int),r = .int .i64 rest∧0 ≤ rest∧rest ≤ 10000∧(o.length:Int) + rest ≤ (k:Int) + 10000∧wr.ownsRow w.heap.size 3 1 v o.length (ints o)∧Below w.heap.size w wr∧Aside (Dg o∧lowI o + rest * 10 ^ o.length = totI f k)) (fun _ r _=>(intOf r).toNat)
      case atStart=>exact ⟨o,rest,rfl,hr,hr1,by omega,hown,hBw,HA2.out⟩
      case round =>
        obtain ⟨o2,r2,rfl,hr20,hr21,hsum,hown2,hBw2,HA3⟩:=hrel
        by_cases hp:0 < r2
        · obtain ⟨d,hd⟩:∃ d,r2 % 10 = d:=⟨_,rfl⟩
          obtain ⟨q,hq⟩:∃ q,r2 / 10 = q:=⟨_,rfl⟩
          have hm1:r2.tmod 10 = d:=by rw [tmod10 _ (by omega)]; exact hd
          have hq1:r2.tdiv 10 = q:=by rw [tdiv10 _ (by omega)]; exact hq
          have hd0:0 ≤ d∧d ≤ 9:=by omega
          have hqb:0 ≤ q∧q < r2:=by omega
          have hw4:IntKind.i64.wrap d = d:=wrap_in _ (by omega) (by omega)
          have hw6:IntKind.i64.wrap q = q:=wrap_in _ (by omega) (by omega)
          have HN:Hid (Dg (o2 ++ [d])∧lowI (o2 ++ [d]) + q * 10 ^ (o2 ++ [d]).length = totI f k):=by
            refine ⟨HA3.out.1.snoc hd0.1 hd0.2,?_⟩
            rw [← hd,← hq]
            exact carry_more HA3.out.2 (by omega)
          have hsz:=hBw2.size
          clear hd hq
          go_wp2_with (first
            | (at_builtin
               refine wpList_append_own _ rfl _ _ 24 rfl w.heap.size 3 i0 (.int .i64 0) 1 8 Tryz.underlying24 hi hz0 hz1 hz2 rfl (by decide) _ _ _ rfl (hown2.alloc _) ⟨_,0,none⟩ 1 1 [.int .i64 d] rfl rfl (cell_one_new _ _ _) (fun x hx=>by simp at hx; subst hx; rfl) (by unfold maxLen; omega) (by omega) (by simp; omega) ?_
               intro v' w3 hown' hgrow hnil
               have X5:Aside (w3.ownsRow w.heap.size 3 1 v' (o2.length + 1) (ints (o2 ++ [d]))∧Below w.heap.size w w3):=by
                 refine ⟨by rw [ints_append]; exact hown',?_⟩
                 exact (hBw2.alloc hsz _).grown hgrow (by simp; omega) (fun j hj=>(hown2.lt j hj).1)
               clear hown' hgrow hnil))
          go_roundw
          case rel=>exact ⟨o2 ++ [d],q,rfl,by omega,by omega,by simp; omega,by rw [List.length_append]; exact X5.out.1,X5.out.2,HN.out⟩
          case measure=>simp [intOf]; omega
        · obtain rfl:r2 = 0:=by omega
          have hend:=carry_end0 HA3.out.1 HA3.out.2
          have hrev:=reverse_own w.heap.size _ o2 _ hown2 (by omega)
          rw [HDD.out] at hend
          have HE:=Lib.hid hend
          have HR:=Lib.hid hrev
          have hsz:=hBw2.size
          have X:=aside hBw2
          clear hend hrev hBw2 HA3 hown2 hown HA2
          go_wp2_with (go_at_call 485; refine HR.out.mono ?_; rintro e w5 ⟨rfl,hi5,hb5⟩)
          have X5:=aside (And.intro hi5 (hb5 w w.heap.size (Nat.le_refl _) X.out))
          have ht:=dtrim_any _ _ _ X5.out.1 (by rw [List.length_reverse]; omega)
          rw [HE.out] at ht
          have HTT:=Lib.hid ht
          clear ht hi5 hb5
          go_wp2_with (go_at_call 54; refine HTT.out.mono ?_; rintro e w6 ⟨v6,rfl,o6,b6⟩)
          go_ret
          exact ⟨_,rfl,own_base o6 X5.out.2.size,X5.out.2.trans (b6.mono X5.out.2.size)⟩
end Go.Proofs.YteiomfgehlojeaaGreatDoor
end
section
namespace Go.Proofs.YteiomfgehlojeaaGreatDoor
open Go.RowKit
theorem digs_len_le {n k:Nat} (h:n < 10 ^ k):(digs n).length ≤ k:=by
  rcases Nat.lt_or_ge k (digs n).length with h1 | h1
  · exfalso
    cases hd:digs n with
    | nil=>rw [hd] at h1; simp at h1
    | cons d r =>
      have hz:=digs_head n d r hd
      have hdg:=digs_dg n d (by rw [hd]; exact List.mem_cons_self)
      have h2:=num_ge (d:=d) (l:=r) (by omega)
      rw [← hd,num_digs] at h2
      rw [hd] at h1
      have h3:10 ^ k ≤ 10 ^ r.length:=Nat.pow_le_pow_right (by omega) (by simp at h1; omega)
      omega
  · exact h1
set_option maxHeartbeats 4000000 in
theorem dsum_any (v u:Value) (a b:List Int) (g:Nat) (w:World) (ha:IsInts w v a) (hb:IsInts w u b) (da:Dg a) (db:Dg b) (la:a.length ≤ 100) (lb:b.length ≤ 100)
    (c0:w.cell? ⟨g,0,none⟩ = some v) (c1:w.cell? ⟨g,1,none⟩ = some u) :
    Calls Tryz.prog 472 #[.slice (some ⟨g,0,none⟩) 2 2] w fun e w'=>∃ v',e = .returned (.tuple #[v', .int .i64 0])∧w'.ownsRow w.heap.size 3 1 v' (digs (num a + num b)).length (ints (digs (num a + num b)))∧Below w.heap.size w w':=by
  obtain ⟨dd,hdd⟩:∃ dd,digs (num a + num b) = dd:=⟨_,rfl⟩
  rw [hdd]
  have HDD:=Lib.hid hdd
  clear hdd
  have hgl:g < w.heap.size:=World.block_lt_of_cell? w _ c0
  go_enter Tryz.func472,Tryz.ntmps472
  go_wp2
  go_loopw [4,10] (fun v i wr=>∃ k:Nat,i = .int .i64 k∧k ≤ 2∧Below w.heap.size w wr∧Aside (∃ s:Nat,((k = 0∧s = 0)∨(k = 1∧s = num a)∨(k = 2∧s = num a + num b))∧wr.ownsRow w.heap.size 3 1 v (digs s).length (ints (digs s)))) (fun _ i _=>2 - (intOf i).toNat)
  case atStart=>exact ⟨0,rfl,by omega,Below.refl _ _,0, .inl ⟨rfl,rfl⟩,by rw [digs_zero]; exact World.ownsRow_nil _ _ _ _⟩
  case round =>
    obtain ⟨k,rfl,hk,hBw,HS⟩:=hrel
    by_cases hlt:k < 2
    · obtain ⟨V,l,hV,hl,dl,ll,hcell,hnext⟩:∃ V l,IsInts wr V l∧l.length ≤ 100∧Dg l∧((k = 0∧l = a)∨(k = 1∧l = b))∧wr.cell? ⟨g,k,none⟩ = some V∧True:=by
        rcases (show k = 0∨k = 1 by omega) with rfl | rfl
        · exact ⟨v,a,ha.below hBw (Nat.le_refl _),la,da, .inl ⟨rfl,rfl⟩,(hBw.cell (p:=⟨g,0,none⟩) hgl).trans c0,trivial⟩
        · exact ⟨u,b,hb.below hBw (Nat.le_refl _),lb,db, .inr ⟨rfl,rfl⟩,(hBw.cell (p:=⟨g,1,none⟩) hgl).trans c1,trivial⟩
      obtain ⟨s,hs,hown⟩:=HS.out
      have hslen:(digs s).length ≤ 101:=by
        refine digs_len_le ?_
        have h1:=num_lt da
        have h2:=num_lt db
        have h3:10 ^ a.length ≤ 10 ^ 100:=Nat.pow_le_pow_right (by omega) la
        have h4:10 ^ b.length ≤ 10 ^ 100:=Nat.pow_le_pow_right (by omega) lb
        rw [Nat.pow_succ]
        generalize (10:Nat) ^ 100 = P at *
        omega
      obtain ⟨so,hso⟩:∃ so,digs s = so:=⟨_,rfl⟩
      have hsd:Dg so:=by rw [← hso]; exact digs_dg s
      have hsn:num so = s:=by rw [← hso]; exact num_digs s
      rw [hso] at hown hslen
      have hIo:=IsInts.of_own hown
      have hsz:=hBw.size
      obtain ⟨A1,c1,hu4⟩:∃ A c,u4 = .slice A so.length c:=by obtain ⟨A,c,he,_⟩:=hIo; exact ⟨A,c,he⟩
      obtain ⟨A2,c2,rfl⟩:∃ A c,V = .slice A l.length c:=by obtain ⟨A,c,he,_⟩:=hV; exact ⟨A,c,he⟩
      obtain ⟨W2,hW2⟩:∃ W2,(wr.alloc (Obj.cells #[.slice A2 l.length c2] 24)).alloc (Obj.cells #[u4] 24) = W2:=⟨_,rfl⟩
      have hB2:Below wr.heap.size wr W2:=by rw [← hW2]; exact ((Below.refl _ wr).alloc (Nat.le_refl _) _).alloc (by simp) _
      have hsz2:W2.heap.size = wr.heap.size + 2:=by rw [← hW2]; simp
      have d1:W2.cell? ⟨wr.heap.size,0,none⟩ = some (.slice A2 l.length c2):=by rw [← hW2]; simp
      have d2:W2.cell? ⟨wr.heap.size + 1,0,none⟩ = some u4:=by
        rw [← hW2]
        simp
      obtain ⟨n,hn⟩:∃ n,max so.length l.length = n:=⟨_,rfl⟩
      have htot:totI (fun i=>fromL so i + fromL l i) n = ((num so + num l:Nat):Int):=by
        rw [tot_add,tot_all so hsd n (by omega),tot_all l dl n (by omega)]
        push_cast
        rfl
      have hcar:=carry_sum (fun i=>fromL so i + fromL l i) n (.pointer (some ⟨wr.heap.size + 1,0,none⟩)) (.pointer (some ⟨wr.heap.size,0,none⟩)) W2 (by omega)
        (fun i _=>by have:=fromL_dg hsd i; have:=fromL_dg dl i; omega) (by rw [htot]; omega)
        (fun W hBW i hi=>sum1_any u4 _ so l (wr.heap.size + 1) wr.heap.size i W ((hIo.below hB2 (Nat.le_refl _)).below hBW (Nat.le_refl _)) ((hV.below hB2 (Nat.le_refl _)).below hBW (Nat.le_refl _))
          ((hBW.cell (p:=⟨wr.heap.size + 1,0,none⟩) (by simp only; omega)).trans d2) ((hBW.cell (p:=⟨wr.heap.size,0,none⟩) (by simp only; omega)).trans d1) hsd dl (by omega))
      rw [htot,Int.toNat_natCast,hsn] at hcar
      have hmay:=dmay_any _ l (wr.alloc (Obj.cells #[.slice A2 l.length c2] 24)) (hV.alloc _) dl
      have HN:Hid (∃ s':Nat,((k + 1 = 0∧s' = 0)∨(k + 1 = 1∧s' = num a)∨(k + 1 = 2∧s' = num a + num b))∧digs s' = digs (s + num l)):=by
        refine ⟨s + num l,?_,rfl⟩
        rcases ll with ⟨rfl,rfl⟩ | ⟨rfl,rfl⟩
        · rcases hs with ⟨_,rfl⟩ | ⟨h,_⟩ | ⟨h,_⟩
          · exact .inr (.inl ⟨rfl,by omega⟩)
          · omega
          · omega
        · rcases hs with ⟨h,_⟩ | ⟨_,rfl⟩ | ⟨h,_⟩
          · omega
          · exact .inr (.inr ⟨rfl,rfl⟩)
          · omega
      have HC:=Lib.hid hcar
      have HW2:=Lib.hid hW2
      have HB2:=Lib.hid (hBw.trans (hB2.mono hsz))
      have hmx:(max (so.length:Int) (l.length:Int)) = (n:Int):=by omega
      clear hcar hW2 hs hown hso hsd hsn htot hB2 d1 d2 ll hnext HS dl hV hIo
      go_wp2_with (first
        | (go_at_call 148; refine hmay.mono ?_; rintro e w' ⟨rfl,rfl⟩))
      rw [← hu4,HW2.out]
      refine HC.out.mono ?_
      rintro e w5 ⟨v5,rfl,o5,b5⟩
      have X5:Aside (Below w.heap.size w w5∧∃ s':Nat,((k + 1 = 0∧s' = 0)∨(k + 1 = 1∧s' = num a)∨(k + 1 = 2∧s' = num a + num b))∧w5.ownsRow w.heap.size 3 1 v5 (digs s').length (ints (digs s'))):=by
        obtain ⟨s',h1,h2⟩:=HN.out
        exact ⟨HB2.out.trans (b5.mono HB2.out.size),s',h1,by rw [h2]; exact own_base o5 HB2.out.size⟩
      clear o5 b5 hu4
      go_wp2
      go_roundw
      case rel=>exact ⟨k + 1,by go_num,by omega,X5.out.1,X5.out.2⟩
      case measure=>simp [intOf]; omega
    · obtain rfl:k = 2:=by omega
      have X5:Aside (wr.ownsRow w.heap.size 3 1 u4 dd.length (ints dd)):=by
        obtain ⟨s,hs,ho⟩:=HS.out
        rcases hs with ⟨h,_⟩ | ⟨h,_⟩ | ⟨_,rfl⟩
        · omega
        · omega
        · rw [HDD.out] at ho; exact ho
      have HBW:=aside hBw
      clear HS hBw
      go_wp2
      go_ret2
      exact ⟨_,rfl,X5.out,HBW.out⟩
theorem cmp3_ge {x y:Int} (h:y ≤ x):cmp3 x y = 0∨cmp3 x y = 1:=by
  rcases Int.lt_or_eq_of_le h with h | h
  · exact .inr (cmp3_gt h)
  · subst h; exact .inl (cmp3_eq _)
set_option maxHeartbeats 4000000 in
theorem dsub_any (v u:Value) (a b:List Int) (w:World) (ha:IsInts w v a) (hb:IsInts w u b) (da:Dg a) (db:Dg b) (la:a.length ≤ 100) (lb:b.length ≤ 100) (hge:num b ≤ num a) :
    Calls Tryz.prog 473 #[v,u] w fun e w'=>∃ v',e = .returned (.tuple #[v', .int .i64 0])∧w'.ownsRow w.heap.size 3 1 v' (digs (num a - num b)).length (ints (digs (num a - num b)))∧Below w.heap.size w w':=by
  obtain ⟨A1,c1,rfl⟩:∃ A c,v = .slice A a.length c:=by obtain ⟨A,c,he,_⟩:=ha; exact ⟨A,c,he⟩
  obtain ⟨A2,c2,rfl⟩:∃ A c,u = .slice A b.length c:=by obtain ⟨A,c,he,_⟩:=hb; exact ⟨A,c,he⟩
  obtain ⟨W2,hW2⟩:∃ W2,(w.alloc (Obj.cells #[.slice A1 a.length c1] 24)).alloc (Obj.cells #[.slice A2 b.length c2] 24) = W2:=⟨_,rfl⟩
  have hB2:Below w.heap.size w W2:=by rw [← hW2]; exact ((Below.refl _ w).alloc (Nat.le_refl _) _).alloc (by simp) _
  have hsz2:W2.heap.size = w.heap.size + 2:=by rw [← hW2]; simp
  have d1:W2.cell? ⟨w.heap.size,0,none⟩ = some (.slice A1 a.length c1):=by rw [← hW2]; simp
  have d2:W2.cell? ⟨w.heap.size + 1,0,none⟩ = some (.slice A2 b.length c2):=by
    rw [← hW2]
    simp
  obtain ⟨n,hn⟩:∃ n,max a.length b.length = n:=⟨_,rfl⟩
  have htot:totI (fun i=>fromL a i - fromL b i) n = ((num a - num b:Nat):Int):=by
    rw [tot_sub,tot_all a da n (by omega),tot_all b db n (by omega)]
    omega
  have hcar:=fun W3 (hB3:Below W2.heap.size W2 W3)=>carry_sub (fun i=>fromL a i - fromL b i) n (.pointer (some ⟨w.heap.size,0,none⟩)) (.pointer (some ⟨w.heap.size + 1,0,none⟩)) W3 (by omega)
    (fun i _=>by have:=fromL_dg da i; have:=fromL_dg db i; omega) (by rw [htot]; omega)
    (fun W hBW i hi=>sub1_any _ _ a b w.heap.size (w.heap.size + 1) i W (((ha.below hB2 (Nat.le_refl _)).below hB3 (Nat.le_refl _)).below hBW (Nat.le_refl _)) (((hb.below hB2 (Nat.le_refl _)).below hB3 (Nat.le_refl _)).below hBW (Nat.le_refl _))
      (((hB3.trans (hBW.mono hB3.size)).cell (p:=⟨w.heap.size,0,none⟩) (by simp only; omega)).trans d1) (((hB3.trans (hBW.mono hB3.size)).cell (p:=⟨w.heap.size + 1,0,none⟩) (by simp only; omega)).trans d2) da db (by omega))
  rw [htot,Int.toNat_natCast] at hcar
  have hm1:=dmay_any _ a W2 (ha.below hB2 (Nat.le_refl _)) da
  have hm2:=dmay_any _ b W2 (hb.below hB2 (Nat.le_refl _)) db
  have hcp:=dcmp_any _ _ a b W2 (ha.below hB2 (Nat.le_refl _)) (hb.below hB2 (Nat.le_refl _)) da db (by omega) (by omega)
  obtain ⟨r,hr⟩:∃ r,cmp3 (num a:Nat) (num b:Nat) = r:=⟨_,rfl⟩
  have hr0:0 ≤ r:=by
    rcases cmp3_ge (show ((num b:Nat):Int) ≤ (num a:Nat) by omega) with h | h <;> omega
  rw [hr] at hcp
  clear hr
  obtain ⟨dd,hdd⟩:∃ dd,digs (num a - num b) = dd:=⟨_,rfl⟩
  rw [hdd] at hcar ⊢
  clear hdd htot
  have e1:W2.cell? ⟨w.heap.size,0,none⟩ = some (.slice A1 a.length c1):=d1
  have HM:Hid (∀ V l,(V = .slice A1 a.length c1∧l = a)∨(V = .slice A2 b.length c2∧l = b)→Calls Tryz.prog 148 #[V] W2 fun e w'=>e = .returned (.bool true)∧W2 = w'):=by
    rintro V l (⟨rfl,rfl⟩ | ⟨rfl,rfl⟩)
    · exact hm1
    · exact hm2
  have HC:=Lib.hid hcar
  have HP:=Lib.hid hcp
  have HW2:=Lib.hid hW2
  have HB2:=Lib.hid hB2
  have hmx:(max (a.length:Int) (b.length:Int)) = (n:Int):=by omega
  have hf1:∀ W3,Below W2.heap.size W2 W3→W3.cell? ⟨w.heap.size,0,none⟩ = some (.slice A1 a.length c1):=fun W3 h=>(h.cell (p:=⟨w.heap.size,0,none⟩) (by simp only; omega)).trans d1
  have hf2:∀ W3,Below W2.heap.size W2 W3→W3.cell? ⟨w.heap.size + 1,0,none⟩ = some (.slice A2 b.length c2):=fun W3 h=>(h.cell (p:=⟨w.heap.size + 1,0,none⟩) (by simp only; omega)).trans d2
  have HF1:=Lib.hid hf1
  have HF2:=Lib.hid hf2
  clear hcar hcp hW2 hB2 ha hb da db hm1 hm2 hf1 hf2
  go_enter Tryz.func473,Tryz.ntmps473
  go_wp2_with fail
  rw [HW2.out]
  go_wp2_with (first
    | (go_at_call 148; refine (HM.out _ _ (by first | exact .inl ⟨rfl,rfl⟩ | exact .inr ⟨rfl,rfl⟩)).mono ?_; rintro e w' ⟨rfl,rfl⟩)
    | (go_at_call 147; refine HP.out.mono ?_; rintro e w3 ⟨rfl,B3⟩; have f1:=HF1.out _ B3; have f2:=HF2.out _ B3)
    | (go_at_call 477; refine (HC.out _ B3).mono ?_; rintro e w4 ⟨v4,rfl,o4,b4⟩))
  have h2:=B3.size
  go_ret2
  exact ⟨_,rfl,own_base o4 (by omega),HB2.out.trans ((B3.mono (by omega)).trans (b4.mono (by omega)))⟩
end Go.Proofs.YteiomfgehlojeaaGreatDoor
end
section
namespace Go.Proofs.YteiomfgehlojeaaGreatDoor
open Go.RowKit
set_option maxHeartbeats 4000000 in
theorem dtimes_any (v:Value) (a:List Int) (m:Nat) (w:World) (ha:IsInts w v a) (da:Dg a) (la:a.length ≤ 100) (hm:m ≤ 1000) :
    Calls Tryz.prog 471 #[v, .int .i64 m] w fun e w'=>∃ v',e = .returned (.tuple #[v', .int .i64 0])∧w'.ownsRow w.heap.size 3 1 v' (digs (m * num a)).length (ints (digs (m * num a)))∧Below w.heap.size w w':=by
  obtain ⟨A1,c1,rfl⟩:∃ A c,v = .slice A a.length c:=by obtain ⟨A,c,he,_⟩:=ha; exact ⟨A,c,he⟩
  obtain ⟨W2,hW2⟩:∃ W2,(w.alloc (Obj.cells #[.slice A1 a.length c1] 24)).alloc (Obj.cells #[.int .i64 m] 3) = W2:=⟨_,rfl⟩
  have hB2:Below w.heap.size w W2:=by rw [← hW2]; exact ((Below.refl _ w).alloc (Nat.le_refl _) _).alloc (by simp) _
  have hsz2:W2.heap.size = w.heap.size + 2:=by rw [← hW2]; simp
  have d1:W2.cell? ⟨w.heap.size,0,none⟩ = some (.slice A1 a.length c1):=by rw [← hW2]; simp
  have d2:W2.cell? ⟨w.heap.size + 1,0,none⟩ = some (.int .i64 m):=by
    rw [← hW2]
    simp
  have htot:totI (fun i=>(m:Int) * fromL a i) a.length = ((m * num a:Nat):Int):=by
    rw [tot_mul,tot_all a da _ (Nat.le_refl _)]
    push_cast
    rfl
  have hcar:=carry_times (fun i=>(m:Int) * fromL a i) a.length (.pointer (some ⟨w.heap.size + 1,0,none⟩)) (.pointer (some ⟨w.heap.size,0,none⟩)) W2 (by omega)
    (fun i _=>by
      have h:=fromL_dg da i
      have h1:(m:Int) * fromL a i ≤ (m:Int) * 9:=Int.mul_le_mul_of_nonneg_left h.2 (by omega)
      have h0:0 ≤ (m:Int) * fromL a i:=Int.mul_nonneg (by omega) h.1
      omega) (by rw [htot]; omega)
    (fun W hBW i hi=>times1_any _ a m (w.heap.size + 1) w.heap.size i W ((ha.below hB2 (Nat.le_refl _)).below hBW (Nat.le_refl _))
      ((hBW.cell (p:=⟨w.heap.size + 1,0,none⟩) (by simp only; omega)).trans d2) ((hBW.cell (p:=⟨w.heap.size,0,none⟩) (by simp only; omega)).trans d1) da (by omega) hm)
  rw [htot,Int.toNat_natCast] at hcar
  have hm1:=dmay_any _ a W2 (ha.below hB2 (Nat.le_refl _)) da
  obtain ⟨dd,hdd⟩:∃ dd,digs (m * num a) = dd:=⟨_,rfl⟩
  rw [hdd] at hcar ⊢
  clear hdd htot
  have HM:=Lib.hid hm1
  have HC:=Lib.hid hcar
  have HW2:=Lib.hid hW2
  have HB2:=Lib.hid hB2
  have hg1:decide ((m:Int) < 0) = false:=decide_eq_false (by omega)
  have hg2:decide ((1000:Int) < (m:Int)) = false:=decide_eq_false (by omega)
  clear hcar hW2 hB2 ha da hm1
  go_enter Tryz.func471,Tryz.ntmps471
  go_wp2_with fail
  rw [HW2.out]
  go_wp2_with (first
    | (go_at_call 148; refine HM.out.mono ?_; rintro e w' ⟨rfl,rfl⟩)
    | (go_at_call 477; refine HC.out.mono ?_; rintro e w4 ⟨v4,rfl,o4,b4⟩))
  go_ret2
  exact ⟨_,rfl,own_base o4 (by omega),HB2.out.trans (b4.mono (by omega))⟩
end Go.Proofs.YteiomfgehlojeaaGreatDoor
end
section
namespace Go.Proofs.YteiomfgehlojeaaGreatDoor
open Go.RowKit
theorem zeroCells_one (n:Nat):Builtin.zeroCells #[Value.int .i64 0] n = (List.replicate n (Value.int .i64 0)).toArray:=by
  apply Array.ext
  · simp [Builtin.zeroCells]
  · intro i h1 h2
    simp [Builtin.zeroCells,Nat.mod_one]
section
variable {P:Program} (w:World)
theorem run_append_zeros_own (base:Nat) (t xt ty e:TypeId) (i:TypeInfo) (ht:P.underlying t = some (.slice e)) (hx:P.underlying xt = some (.int .i64)) (hi:P.info? e = some i) (hz:i.zero = some (.int .i64 0))
    (hsize:i.size = 1) (hby:i.bytes = 8)
    (v:Value) (n:Nat) (xs:List Value) (hown:w.ownsRow base e 1 v n xs)
    (m:Nat) (hnm:n + m ≤ 1000000) (hbase:base ≤ w.heap.size) :
    ∃ v' w',(Builtin.append_ #[t,xt] ty #[v, .int .i64 m]).run P w = .ok v' w'∧w'.ownsRow base e 1 v' (n + m) (xs ++ List.replicate m (.int .i64 0))∧w.grownBy w' v.ownBlock:=by
  have hwm:IntKind.i64.wrap (m:Int) = (m:Int):=wrap_in _ (by omega) (by omega)
  have hm0:¬ ((m:Int) < 0):=by omega
  have hm48:¬ ((281474976710656:Int) < (m:Int) * 8):=by omega
  have hlen:(xs ++ List.replicate m (Value.int .i64 0)).length = (n + m) * 1:=by
    have:=hown.1
    rw [List.length_append,List.length_replicate]; omega
  have hzc:Builtin.zeroCells (Value.int .i64 0).cells m = (List.replicate m (Value.int .i64 0)).toArray:=zeroCells_one m
  have grown:∀ (old:Nat),old < n + m→∀ (row:Option Nat),
      (w.drew.alloc (.cells (xs.toArray ++ (List.replicate m (Value.int .i64 0)).toArray ++ Builtin.zeroCells (Value.int .i64 0).cells (grownCap w (n + m) old e - (n + m))) e)).ownsRow base e 1
        (.slice (some ⟨w.heap.size,0,none⟩) (n + m) (grownCap w (n + m) old e)) (n + m) (xs ++ List.replicate m (.int .i64 0)) ∧
      w.grownBy (w.drew.alloc (.cells (xs.toArray ++ (List.replicate m (Value.int .i64 0)).toArray ++ Builtin.zeroCells (Value.int .i64 0).cells (grownCap w (n + m) old e - (n + m))) e)) row:=by
    intro old ho row
    have hge:=grownCap_ge w (n + m) old e
    have hcm:grownCap w (n + m) old e ≤ maxLen:=grownCap_le_maxLen w (n + m) old e (by unfold maxLen; omega)
    have h1:=hown.1
    refine ⟨⟨hlen, .inr ⟨w.heap.size,_,_,rfl,hbase,heap_alloc_new w.drew _,hge,hcm,?_,?_⟩⟩,⟨rfl,rfl,rfl,by simp,fun k hk _=>_root_.Go.heap_alloc_old w.drew _ hk⟩⟩
    · simp only [Array.size_append,List.size_toArray,size_zeroCells,List.length_replicate]
      have:(Value.int .i64 0).cells.size = 1:=rfl
      rw [this]
      omega
    · simp only [Array.toList_append]
      rw [← hlen]
      exact List.take_left
  rcases hown.2 with ⟨rfl,rfl⟩ | ⟨g,cap,cur,rfl,hbg,hg,hnc,hcm,hcs,htake⟩
  · have hx0:xs = []:=List.eq_nil_of_length_eq_zero (by simpa using hown.1)
    subst hx0
    by_cases hm:m = 0
    · subst hm
      refine ⟨.slice none 0 0,w,?_,World.ownsRow_nil w base e 1,⟨rfl,rfl,rfl,Nat.le_refl _,fun _ _ _=>rfl⟩⟩
      have hw0:IntKind.i64.wrap 0 = 0:=by decide
      simp [Builtin.append_,run_underlying ht,run_underlying hx,sizeOf,typeInfo,hi,asInt,asIntOf,hw0]
    · have hgr:=grown 0 (by omega) (Value.ownBlock (.slice none 0 0))
      have h63':¬ (9223372036854775807 < (m:Int)):=by omega
      have h48':¬ (281474976710656 < Builtin.nextslicecap m 0 * 8):=by rw [nextslicecap_zero (by omega)]; omega
      simp only [Nat.zero_add,List.nil_append] at hgr ⊢
      refine ⟨_,_,?_,hgr.1,hgr.2⟩
      simp [Builtin.append_,run_underlying ht,run_underlying hx,sizeOf,typeInfo,zeroValue,hi,hz,hsize,hby,asInt,asIntOf,hwm,hm0,hm48,hm,h63',h48',Question.forced,run_firstCells_none,newRow,grownCap,hzc]
  · by_cases hroom:n + m ≤ cap
    · have hst:=run_storeCells_at P g (n * 1) e (List.replicate m (Value.int .i64 0)) 0 cur w hg (by simp; omega) (fun u hu=>by rw [List.eq_of_mem_replicate hu]; rfl)
      simp only [Nat.add_zero,Nat.mul_one] at hst
      refine ⟨.slice (some ⟨g,0,none⟩) (n + m) cap,w.setRow g (cur.toList.take n ++ List.replicate m (Value.int .i64 0) ++ cur.toList.drop (n + m)).toArray,?_,⟨hlen, .inr ⟨g,cap,_,rfl,hbg,setRow_heap w g cur _ e _ hg,hroom,hcm,?_,?_⟩⟩,⟨rfl,rfl,rfl,by simp,fun k _ hk=>setRow_other w g k _ (fun e=>hk (by simp [Value.ownBlock,e]))⟩⟩
      · by_cases hm:m = 0
        · subst hm
          have hw0:IntKind.i64.wrap 0 = 0:=by decide
          simp only [List.replicate_zero,List.length_nil,Nat.add_zero] at hst
          simp [Builtin.append_,run_underlying ht,run_underlying hx,sizeOf,typeInfo,hi,hsize,asInt,asIntOf,hroom,hw0,Addr.add_lit,hst,hnc]
        · simp [Builtin.append_,run_underlying ht,run_underlying hx,sizeOf,typeInfo,zeroValue,hi,hz,hsize,hby,asInt,asIntOf,hwm,hm0,hm48,hm,hroom,hzc,Addr.add_lit,hst]
      · simp only [List.size_toArray,List.length_append,List.length_take,List.length_drop,List.length_replicate,Array.length_toList]
        omega
      · rw [← hlen]
        have:cur.toList.take n = xs:=by simpa using htake
        rw [this]
        exact List.take_left
    · have holds:∀ j u,xs[j]? = some u→w.cell? ((⟨g,0,none⟩:Addr).add j) = some u:=hown.cells (g:=g) rfl
      have hfo:=run_firstCells_some (P:=P) w.drew 1 n ⟨g,0,none⟩ n cap xs hown.1 (by simpa using holds)
      have hgr:=grown cap (by omega) (Value.ownBlock (.slice (some ⟨g,0,none⟩) n cap))
      have hn:¬ (n + m ≤ cap):=hroom
      have h63':¬ (9223372036854775807 < ((n:Int) + (m:Int))):=by omega
      have h48':¬ (281474976710656 < Builtin.nextslicecap (n + m) cap * 8):=by
        have:=growslice_fits (need:=n + m) (old:=cap) (bytes:=8) (by omega) (by omega)
        omega
      refine ⟨_,_,?_,hgr.1,hgr.2⟩
      by_cases hm:m = 0
      · omega
      · simp [Builtin.append_,run_underlying ht,run_underlying hx,sizeOf,typeInfo,zeroValue,hi,hz,hsize,hby,asInt,asIntOf,hwm,hm0,hm48,hm,hn,h63',h48',Question.forced,hfo,newRow,grownCap,hzc]
theorem wpList_append_zeros {ops:Array Oper} {rest:List Oper} {o:Oper} {a:Act} {Q:Exit→Act→World→Prop} (hgd:o.guard = none) (s x:Operand) (t xt:TypeId)
    (ho:o.op = .call { callee:=.builtin .append,args:=#[s,x],argTypes:=#[t,xt] })
    (base:Nat) (e:TypeId) (i:TypeInfo) (ht:P.underlying t = some (.slice e)) (hxt:P.underlying xt = some (.int .i64)) (hi:P.info? e = some i) (hz:i.zero = some (.int .i64 0))
    (hsize:i.size = 1) (hby:i.bytes = 8)
    (v:Value) (n:Nat) (xs:List Value) (hs:a.eval s = v) (hown:w.ownsRow base e 1 v n xs)
    (m:Nat) (hx:a.eval x = .int .i64 m) (hnm:n + m ≤ 1000000) (hbase:base ≤ w.heap.size)
    (h:∀ v' w',w'.ownsRow base e 1 v' (n + m) (xs ++ List.replicate m (.int .i64 0))→w.grownBy w' v.ownBlock→wpList P ops Q rest (a.put o.dst v') w') :
    wpList P ops Q (o :: rest) a w:=by
  refine wpList_plain hgd fun K hK=>?_
  obtain ⟨v',w',hr,h2,h3⟩:=run_append_zeros_own (P:=P) w base t xt o.type e i ht hxt hi hz hsize hby v n xs hown m hnm hbase
  unfold Oper.wp execOp
  simp only [ho,resolve,invoke,builtin,Sem.run_bind,Sem.run_pure,Result.andThen_ok,List.map_toArray,List.map_cons,List.map_nil,hs,hx,hr]
  exact hK _ _ (h v' w' h2 h3)
end
end Go.Proofs.YteiomfgehlojeaaGreatDoor
end
section
namespace Go.Proofs.YteiomfgehlojeaaGreatDoor
open Go.RowKit
set_option maxHeartbeats 4000000 in
theorem dshift_any (v:Value) (a:List Int) (m:Nat) (w:World) (ha:IsInts w v a) (da:Dg a) (la:a.length ≤ 100) (hm:m ≤ 1000) :
    Calls Tryz.prog 197 #[v, .int .i64 m] w fun e w'=>∃ v',e = .returned (.tuple #[v', .int .i64 0])∧w'.ownsRow w.heap.size 3 1 v' (a ++ List.replicate m 0).length (ints (a ++ List.replicate m 0))∧Below w.heap.size w w':=by
  have hm1:=dmay_any _ a w ha da
  have hc:=clone_any v a w ha (by omega)
  have HM:=Lib.hid hm1
  have HC:=Lib.hid hc
  have hg1:decide ((m:Int) < 0) = false:=decide_eq_false (by omega)
  have hg2:decide ((1000:Int) < (m:Int)) = false:=decide_eq_false (by omega)
  have hg3:decide ((m:Int) < -1000) = false:=decide_eq_false (by omega)
  clear hm1 hc
  obtain ⟨i0,hi,hz0,hz1,hz2⟩:=info_parts info_int
  go_enter Tryz.func197,Tryz.ntmps197
  go_wp2_with (first
    | (go_at_call 148; refine HM.out.mono ?_; rintro e w' ⟨rfl,rfl⟩)
    | (go_at_call 71; refine HC.out.mono ?_; rintro e w4 ⟨v4,rfl,o4,b4⟩)
    | (at_builtin
       refine wpList_append_zeros _ rfl _ _ 24 3 rfl w.heap.size 3 i0 Tryz.underlying24 Tryz.underlying3 hi hz0 hz1 hz2 _ _ _ rfl o4 m rfl (by omega) b4.size ?_
       intro v' w3 hown' hgrow))
  go_ret2
  refine ⟨_,rfl,?_,b4.grown hgrow b4.size (fun j hj=>(o4.lt j hj).1)⟩
  rw [List.length_append,List.length_replicate,ints_append]
  have:ints (List.replicate m 0) = List.replicate m (Value.int .i64 0):=by simp [ints]
  rw [this]
  exact hown'
end Go.Proofs.YteiomfgehlojeaaGreatDoor
end
section
namespace Go.Proofs.YteiomfgehlojeaaGreatDoor
open Go.RowKit
theorem frz_of_row {w:World} {b:Nat} {cs:Array Value} {t:TypeId} (h:w.heap[b]? = some (.cells cs t (0,0))) (i:Nat):w.frozen? ⟨b,i,none⟩ = false:=by
  simp [World.frozen?,h]
theorem heap_set1 (w:World) (g i:Nat) (v:Value) (cs:Array Value) (t:TypeId) (fz:Nat × Nat) (h:w.heap[g]? = some (.cells cs t fz)):(w.setCell ⟨g,i,none⟩ v).heap[g]? = some (.cells (cs.setIfInBounds i v) t fz):=by
  simp [World.setCell,Array.getElem?_modify,h]
def Blk3 (w:World) (g:Nat) (a b c:Value):Prop:=w.heap[g]? = some (.cells #[a,b,c] 73 (0,0))
section
variable {w w':World} {g:Nat} {a b c:Value}
theorem Blk3.c0 (h:Blk3 w g a b c):w.cell? ⟨g,0,none⟩ = some a:=by rw [cell_of_row w g 0 _ _ _ h]; rfl
theorem Blk3.c1 (h:Blk3 w g a b c):w.cell? ⟨g,1,none⟩ = some b:=by rw [cell_of_row w g 1 _ _ _ h]; rfl
theorem Blk3.c2 (h:Blk3 w g a b c):w.cell? ⟨g,2,none⟩ = some c:=by rw [cell_of_row w g 2 _ _ _ h]; rfl
theorem Blk3.fz (h:Blk3 w g a b c) (i:Nat):w.frozen? ⟨g,i,none⟩ = false:=frz_of_row h i
theorem Blk3.lt (h:Blk3 w g a b c):g < w.heap.size:=(Array.getElem?_eq_some_iff.1 h).1
theorem Blk3.keep (h:Blk3 w g a b c) (hk:w'.heap[g]? = w.heap[g]?):Blk3 w' g a b c:=hk.trans h
theorem Blk3.below {B:Nat} (h:Blk3 w g a b c) (hb:Below B w w') (hB:g < B):Blk3 w' g a b c:=(hb.block g hB).trans h
theorem Blk3.set0 (h:Blk3 w g a b c) (v:Value):Blk3 (w.setCell ⟨g,0,none⟩ v) g v b c:=heap_set1 w g 0 v _ _ _ h
theorem Blk3.set1 (h:Blk3 w g a b c) (v:Value):Blk3 (w.setCell ⟨g,1,none⟩ v) g a v c:=heap_set1 w g 1 v _ _ _ h
theorem Blk3.set2 (h:Blk3 w g a b c) (v:Value):Blk3 (w.setCell ⟨g,2,none⟩ v) g a b v:=heap_set1 w g 2 v _ _ _ h
theorem Blk3.setAll (h:Blk3 w g a b c) (x y z:Value):Blk3 (((w.setCell ⟨g,0,none⟩ x).setCell ⟨g,1,none⟩ y).setCell ⟨g,2,none⟩ z) g x y z:=((h.set0 _).set1 _).set2 _
theorem Blk3.far (h:Blk3 w g a b c) {p:Addr} (hp:g ≠ p.block) (v:Value):Blk3 (w.setCell p v) g a b c:=(Below.heap_setCell w p v g hp).trans h
theorem Blk3.new (w:World) (a b c:Value):Blk3 (w.alloc (.cells #[a,b,c] 73)) w.heap.size a b c:=heap_alloc_new w _
end
def From (B:Nat) (v:Value):Prop:=∀ k,v.ownBlock = some k→B ≤ k
theorem IsInts.far {w:World} {v:Value} {l:List Int} {B:Nat} (h:IsInts w v l) (hf:From B v) {p:Addr} (hp:p.block < B) (u:Value):IsInts (w.setCell p u) v l:=by
  obtain ⟨A,c,rfl,h0,h1,h2⟩:=h
  refine ⟨A,c,rfl,h0,h1,fun hl=>?_⟩
  obtain ⟨b,off,rfl,hc⟩:=h2 hl
  refine ⟨b,off,rfl,fun j hj=>?_⟩
  rw [← hc j hj]
  have:=hf b (by simp [Value.ownBlock])
  exact World.cell?_of_block (a:=⟨b,off + j,none⟩) (Below.heap_setCell w p u b (by omega))
theorem IsInts.front {w:World} {A:Option Addr} {n c:Nat} {l:List Int} {x:Int} (h:IsInts w (.slice A n c) (l ++ [x])):IsInts w (.slice A l.length c) l:=by
  obtain ⟨A',c',he,h0,h1,h2⟩:=h
  injection he with e1 e2 e3
  subst e1 e3
  rw [List.length_append] at h0 h2
  simp only [List.length_cons,List.length_nil] at h0 h2
  refine ⟨A,c,rfl,by omega,h1,fun hl=>?_⟩
  obtain ⟨b,off,rfl,hc⟩:=h2 (by omega)
  refine ⟨b,off,rfl,fun j hj=>?_⟩
  rw [hc j (by omega)]
  simp [List.getD_eq_getElem?_getD,List.getElem?_append_left hj]
theorem IsInts.last {w:World} {A:Option Addr} {n c:Nat} {l:List Int} {x:Int} (h:IsInts w (.slice A n c) (l ++ [x])):∃ b off,A = some ⟨b,off,none⟩∧n = l.length + 1∧l.length + 1 ≤ c∧c ≤ 9223372036854775807∧w.cell? ⟨b,off + l.length,none⟩ = some (.int .i64 x):=by
  obtain ⟨A',c',he,h0,h1,h2⟩:=h
  injection he with e1 e2 e3
  subst e1 e3
  rw [List.length_append] at h0 h2 e2
  simp only [List.length_cons,List.length_nil] at h0 h2 e2
  obtain ⟨b,off,rfl,hc⟩:=h2 (by omega)
  refine ⟨b,off,rfl,e2,h0,h1,?_⟩
  rw [hc l.length (by omega)]
  simp
theorem boxes2 (w:World) (a b c x y z:Value):∃ W2,(w.alloc (Obj.cells #[a,b,c] 73)).alloc (Obj.cells #[x,y,z] 73) = W2∧W2.heap.size = w.heap.size + 2 ∧
    Blk3 W2 w.heap.size a b c∧Blk3 W2 (w.heap.size + 1) x y z∧Below w.heap.size w W2:=by
  refine ⟨_,rfl,by simp,(Blk3.new w _ _ _).keep (heap_alloc_old _ _ (by simp)),?_,((Below.refl _ w).alloc (Nat.le_refl _) _).alloc (by simp) _⟩
  have:=Blk3.new (w.alloc (Obj.cells #[a,b,c] 73)) x y z
  simpa using this
structure Bx (w:World) (g:Nat) (a b c:Value):Prop where
  c0:w.cell? ⟨g,0,none⟩ = some a
  c1:w.cell? ⟨g,1,none⟩ = some b
  c2:w.cell? ⟨g,2,none⟩ = some c
  fz:∀ i,w.frozen? ⟨g,i,none⟩ = false
theorem Blk3.bx {w:World} {g:Nat} {a b c:Value} (h:Blk3 w g a b c):Bx w g a b c:=⟨h.c0,h.c1,h.c2,h.fz⟩
theorem results_cell_two {P:Program} {fn:Func} {p a:Tmp} {ty:TypeId} (h:fn.results = #[.cell p ty, .tmp a]) (tmps:Array Value) (w:World) (g:Nat) (t:TypeId) (cs:Array Value) (fr:Nat × Nat) (d:TypeDesc) (x:Value)
    (hp:tmps.getD p undef = .pointer (some ⟨g,0,none⟩)) (hx:tmps.getD a undef = x) (hg:w.heap[g]? = some (.cells cs t fr))
    (hu:P.underlying ty = some d) (hd:(match d with | .struct _ | .array _ _=>true | _=>false) = true) (hi:(P.info? ty).map (·.size) = some cs.size) :
    (results fn tmps).run P w = .ok (.tuple #[.agg cs,x]) w:=by
  have hp':tmps[p]?.getD undef = .pointer (some ⟨g,0,none⟩):=by simpa using hp
  have hx':tmps[a]?.getD undef = x:=by simpa using hx
  simp [results,h,hp',hx',asAddr,run_loadVar_row w g t ty cs fr d hg hu hd hi]
theorem Below.set3 {N:Nat} {w w':World} (h:Below N w w') {g:Nat} (hg:N ≤ g) (x y z:Value):Below N w (((w'.setCell ⟨g,0,none⟩ x).setCell ⟨g,1,none⟩ y).setCell ⟨g,2,none⟩ z) :=
  ((h.setCell (p:=⟨g,0,none⟩) hg x).setCell (p:=⟨g,1,none⟩) hg y).setCell (p:=⟨g,2,none⟩) hg z
theorem own_form {w:World} {B:Nat} {t:TypeId} {v:Value} {n:Nat} {xs:List Value} (h:w.ownsRow B t 1 v n xs):∃ A c,v = .slice A n c:=by
  rcases h.2 with ⟨rfl,rfl⟩ | ⟨g,cap,cur,rfl,_⟩
  · exact ⟨none,0,rfl⟩
  · exact ⟨_,_,rfl⟩
theorem IsInts.form {w:World} {v:Value} {l:List Int} (h:IsInts w v l):∃ A c,v = .slice A l.length c:=by
  obtain ⟨A,c,he,_⟩:=h
  exact ⟨A,c,he⟩
end Go.Proofs.YteiomfgehlojeaaGreatDoor
end
