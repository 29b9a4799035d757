/-
  NARROWER THAN 'FOR EVERY INPUT', by the rows' own cells (each row's printed sentence says how): UtfAll: laid · UtfJoins: laid · UtfEncodes: laid · UtfFirsts: laid · UtfTwo: laid.
  DERIVED. THE GIVEN ROWS OF THIS SEAT. 5 by the template 'for every input the law returns true; each argument reads behind the call as it read before'; 0 by the template 'total and deterministic' (their statements: YtilblnolfcbdlaaDoorTotals.lean).
  GIVEN WITH THE SEED: the statements are not yours to turn. If you find one false, say at which input.
  Laid BY PROGRAM, IN A SANDBOX (cutbox-rows.mjs): the forced cells as the released guide's own fill.sh prints them over the translation 51f9c2c1e99cbdbd… (all of the seat's roots in one cut). By AI agents, Wed Nov 11 2026. No macro, syntax, notation, axiom, sorry.
-/
import Derived.Test.YtilblnolfcbdlaaDoorChecked
import GoSem.PinnedTables
import GoSem.Claim
import GoSem.ClaimJoined
import GoSem.ClaimMapViews
import Derived.JoinedTies
import Derived.KernelRfl
namespace Go.Proofs.YtilblnolfcbdlaaDoor
/- THE CELL 'sum', in the pinned program and in every row, IS THE sha256 OF THE DUMP (.gsa) THAT YtilblnolfcbdlaaDoorProg.lean LOADS. Nothing in Lean hashes anything: it is a label: what it is worth is what the hold of that sum in a sandbox is worth. -/
noncomputable def Tryd.pinned : Pinned := { name := "ytilblnolfcbdlaadoor", sum := "51f9c2c1e99cbdbde9e4d4f2b81fa9272dcc306778a7345650a51b0ea1f905cc", checked := Tryd.checked }
namespace Rows
def none {H : Type} : Left H := { results := [], args := [] }

/- WHAT THE LISTED PACKAGE-LEVEL VARIABLES READ AS WHEN THE CALL BEGINS. Each datum BY PROGRAM (the guide's laid-datum.mjs) off the statement by which the dump's own 'gosem.cut.vars' lays the variable. In a bare row this is a premise. The card (YtilblnolfcbdlaaDoorCards.lean) ties it to the program's text. -/
def laid_unicode_utf8_acceptRanges {H : Type} : DataW H := .agg [.agg [.lit (.int .u8 128), .lit (.int .u8 191)], .agg [.lit (.int .u8 160), .lit (.int .u8 191)], .agg [.lit (.int .u8 128), .lit (.int .u8 159)], .agg [.lit (.int .u8 144), .lit (.int .u8 191)], .agg [.lit (.int .u8 128), .lit (.int .u8 143)], .agg [.lit (.int .u8 0), .lit (.int .u8 0)], .agg [.lit (.int .u8 0), .lit (.int .u8 0)], .agg [.lit (.int .u8 0), .lit (.int .u8 0)], .agg [.lit (.int .u8 0), .lit (.int .u8 0)], .agg [.lit (.int .u8 0), .lit (.int .u8 0)], .agg [.lit (.int .u8 0), .lit (.int .u8 0)], .agg [.lit (.int .u8 0), .lit (.int .u8 0)], .agg [.lit (.int .u8 0), .lit (.int .u8 0)], .agg [.lit (.int .u8 0), .lit (.int .u8 0)], .agg [.lit (.int .u8 0), .lit (.int .u8 0)], .agg [.lit (.int .u8 0), .lit (.int .u8 0)]]
/-- One of Go's own tables, pinned by name: the form's constant. -/
def laid_unicode_utf8_first : DataW Unit := Go.Pinned.utf8First

/-- 'abacistlaw01.UtfAll': WHATEVER THE INPUT: true; the input reads as it did. -/
def utfAllSpec : ChangeSpec := { name := "utfAll", fn := fun _ => fun
  | [d] => { results := [.lit (.bool true)], args := [d] }
  | _ => none }
def utfAllRow : OpenClaim := { program := "ytilblnolfcbdlaadoor", sum := "51f9c2c1e99cbdbde9e4d4f2b81fa9272dcc306778a7345650a51b0ea1f905cc", func := "abacist/abacistlaw01.UtfAll", spec := "utfAll", named := ["unicode/utf8.first", "unicode/utf8.acceptRanges"], apart := false, laid := [("unicode/utf8.acceptRanges", laid_unicode_utf8_acceptRanges), ("unicode/utf8.first", laid_unicode_utf8_first)] }
def UtfAllSaid : Prop := utfAllRow.holds Tryd.pinned (OpenSpec.ofChange utfAllSpec)

/-- ITS FALSE NEIGHBOUR: 'it returns false'. Refute it at one input. -/
def utfAllWrong : ChangeSpec := { name := "utfAll", fn := fun _ => fun
  | [d] => { results := [.lit (.bool false)], args := [d] }
  | _ => none }
def UtfAllWrongFalsely : Prop := utfAllRow.holds Tryd.pinned (OpenSpec.ofChange utfAllWrong)

/-- 'abacistlaw01.UtfJoins': WHATEVER THE INPUT: true; the input reads as it did. -/
def utfJoinsSpec : ChangeSpec := { name := "utfJoins", fn := fun _ => fun
  | [d] => { results := [.lit (.bool true)], args := [d] }
  | _ => none }
def utfJoinsRow : OpenClaim := { program := "ytilblnolfcbdlaadoor", sum := "51f9c2c1e99cbdbde9e4d4f2b81fa9272dcc306778a7345650a51b0ea1f905cc", func := "abacist/abacistlaw01.UtfJoins", spec := "utfJoins", inPlace := ["internal/abi.NoEscape"], named := ["unicode/utf8.first", "unicode/utf8.acceptRanges"], apart := false, laid := [("unicode/utf8.acceptRanges", laid_unicode_utf8_acceptRanges), ("unicode/utf8.first", laid_unicode_utf8_first)] }
def UtfJoinsSaid : Prop := utfJoinsRow.holds Tryd.pinned (OpenSpec.ofChange utfJoinsSpec)

/-- ITS FALSE NEIGHBOUR: 'it returns false'. Refute it at one input. -/
def utfJoinsWrong : ChangeSpec := { name := "utfJoins", fn := fun _ => fun
  | [d] => { results := [.lit (.bool false)], args := [d] }
  | _ => none }
def UtfJoinsWrongFalsely : Prop := utfJoinsRow.holds Tryd.pinned (OpenSpec.ofChange utfJoinsWrong)

/-- 'abacistlaw01.UtfEncodes': WHATEVER THE INPUT: true; the input reads as it did. -/
def utfEncodesSpec : ChangeSpec := { name := "utfEncodes", fn := fun _ => fun
  | [d] => { results := [.lit (.bool true)], args := [d] }
  | _ => none }
def utfEncodesRow : OpenClaim := { program := "ytilblnolfcbdlaadoor", sum := "51f9c2c1e99cbdbde9e4d4f2b81fa9272dcc306778a7345650a51b0ea1f905cc", func := "abacist/abacistlaw01.UtfEncodes", spec := "utfEncodes", named := ["unicode/utf8.first", "unicode/utf8.acceptRanges"], apart := false, laid := [("unicode/utf8.acceptRanges", laid_unicode_utf8_acceptRanges), ("unicode/utf8.first", laid_unicode_utf8_first)] }
def UtfEncodesSaid : Prop := utfEncodesRow.holds Tryd.pinned (OpenSpec.ofChange utfEncodesSpec)

/-- ITS FALSE NEIGHBOUR: 'it returns false'. Refute it at one input. -/
def utfEncodesWrong : ChangeSpec := { name := "utfEncodes", fn := fun _ => fun
  | [d] => { results := [.lit (.bool false)], args := [d] }
  | _ => none }
def UtfEncodesWrongFalsely : Prop := utfEncodesRow.holds Tryd.pinned (OpenSpec.ofChange utfEncodesWrong)

/-- 'abacistlaw01.UtfFirsts': WHATEVER THE INPUT: true; the input reads as it did. -/
def utfFirstsSpec : ChangeSpec := { name := "utfFirsts", fn := fun _ => fun
  | [d] => { results := [.lit (.bool true)], args := [d] }
  | _ => none }
def utfFirstsRow : OpenClaim := { program := "ytilblnolfcbdlaadoor", sum := "51f9c2c1e99cbdbde9e4d4f2b81fa9272dcc306778a7345650a51b0ea1f905cc", func := "abacist/abacistlaw01.UtfFirsts", spec := "utfFirsts", named := ["unicode/utf8.first", "unicode/utf8.acceptRanges"], apart := false, laid := [("unicode/utf8.acceptRanges", laid_unicode_utf8_acceptRanges), ("unicode/utf8.first", laid_unicode_utf8_first)] }
def UtfFirstsSaid : Prop := utfFirstsRow.holds Tryd.pinned (OpenSpec.ofChange utfFirstsSpec)

/-- ITS FALSE NEIGHBOUR: 'it returns false'. Refute it at one input. -/
def utfFirstsWrong : ChangeSpec := { name := "utfFirsts", fn := fun _ => fun
  | [d] => { results := [.lit (.bool false)], args := [d] }
  | _ => none }
def UtfFirstsWrongFalsely : Prop := utfFirstsRow.holds Tryd.pinned (OpenSpec.ofChange utfFirstsWrong)

/-- 'abacistlaw01.UtfTwo': WHATEVER THE INPUT: true; the input reads as it did. -/
def utfTwoSpec : ChangeSpec := { name := "utfTwo", fn := fun _ => fun
  | [d1, d2] => { results := [.lit (.bool true)], args := [d1, d2] }
  | _ => none }
def utfTwoRow : OpenClaim := { program := "ytilblnolfcbdlaadoor", sum := "51f9c2c1e99cbdbde9e4d4f2b81fa9272dcc306778a7345650a51b0ea1f905cc", func := "abacist/abacistlaw01.UtfTwo", spec := "utfTwo", inPlace := ["internal/abi.NoEscape"], named := ["unicode/utf8.first", "unicode/utf8.acceptRanges"], apart := false, laid := [("unicode/utf8.acceptRanges", laid_unicode_utf8_acceptRanges), ("unicode/utf8.first", laid_unicode_utf8_first)] }
def UtfTwoSaid : Prop := utfTwoRow.holds Tryd.pinned (OpenSpec.ofChange utfTwoSpec)

/-- ITS FALSE NEIGHBOUR: 'it returns false'. Refute it at one input. -/
def utfTwoWrong : ChangeSpec := { name := "utfTwo", fn := fun _ => fun
  | [d1, d2] => { results := [.lit (.bool false)], args := [d1, d2] }
  | _ => none }
def UtfTwoWrongFalsely : Prop := utfTwoRow.holds Tryd.pinned (OpenSpec.ofChange utfTwoWrong)

/- THE SECOND FORM. 'bulk': how many values and letters a reading holds, each counted each time it is reached (what is shared counts as often as it is met; a slice's spare places count too). A statement '..UptoSaid' is the law's where the arguments, and the package variables that the reading takes, are together of bulk at most 1048576: NARROWER than '..Said'. Prove '..Said' where nothing that the law and all that it calls make is longer than what came in: it says more and counts as full. Else prove '..UptoSaid'. A law counts once. -/
mutual
def uptoBulk {H : Type} : DataW H → Nat
  | .lit (.string bytes) => bytes.length + 1
  | .lit _ => 1
  | .nil => 1
  | .ptr d => uptoBulk d + 1
  | .slice elems spare => uptoBulkAll elems + uptoBulkAll spare + 1
  | .agg parts => uptoBulkAll parts + 1
  | .iface _ d => uptoBulk d + 1
  | .map entries => uptoBulkEntries entries + 1
  | .held _ => 1
def uptoBulkAll {H : Type} : List (DataW H) → Nat
  | [] => 0
  | d :: r => uptoBulk d + uptoBulkAll r
def uptoBulkEntries {H : Type} : List (Lit × DataW H) → Nat
  | [] => 0
  | x :: r => uptoBulkEntry x + uptoBulkEntries r
def uptoBulkEntry {H : Type} : Lit × DataW H → Nat
  | (.string bytes, d) => bytes.length + uptoBulk d + 1
  | (_, d) => uptoBulk d + 1
 end
def uptoSmall : (H : Type) → List (DataW H) → Bool := fun _ ds => decide (uptoBulkAll ds ≤ 1048576)
def OpenSpec.upto (s : _root_.Go.ChangeSpec) : _root_.Go.OpenSpec := { _root_.Go.OpenSpec.ofChange s with cond := some uptoSmall }

/-- 'abacistlaw01.UtfAll', WHERE WHAT IT READS IS OF BULK AT MOST 1048576: true; the input reads as it did. -/
def utfAllUptoRow : OpenClaim := { program := "ytilblnolfcbdlaadoor", sum := "51f9c2c1e99cbdbde9e4d4f2b81fa9272dcc306778a7345650a51b0ea1f905cc", func := "abacist/abacistlaw01.UtfAll", spec := "utfAll", named := ["unicode/utf8.first", "unicode/utf8.acceptRanges"], apart := false, laid := [("unicode/utf8.acceptRanges", laid_unicode_utf8_acceptRanges), ("unicode/utf8.first", laid_unicode_utf8_first)], narrowed := true }
def UtfAllUptoSaid : Prop := utfAllUptoRow.holds Tryd.pinned (OpenSpec.upto utfAllSpec)

/-- 'abacistlaw01.UtfJoins', WHERE WHAT IT READS IS OF BULK AT MOST 1048576: true; the input reads as it did. -/
def utfJoinsUptoRow : OpenClaim := { program := "ytilblnolfcbdlaadoor", sum := "51f9c2c1e99cbdbde9e4d4f2b81fa9272dcc306778a7345650a51b0ea1f905cc", func := "abacist/abacistlaw01.UtfJoins", spec := "utfJoins", inPlace := ["internal/abi.NoEscape"], named := ["unicode/utf8.first", "unicode/utf8.acceptRanges"], apart := false, laid := [("unicode/utf8.acceptRanges", laid_unicode_utf8_acceptRanges), ("unicode/utf8.first", laid_unicode_utf8_first)], narrowed := true }
def UtfJoinsUptoSaid : Prop := utfJoinsUptoRow.holds Tryd.pinned (OpenSpec.upto utfJoinsSpec)

/-- 'abacistlaw01.UtfEncodes', WHERE WHAT IT READS IS OF BULK AT MOST 1048576: true; the input reads as it did. -/
def utfEncodesUptoRow : OpenClaim := { program := "ytilblnolfcbdlaadoor", sum := "51f9c2c1e99cbdbde9e4d4f2b81fa9272dcc306778a7345650a51b0ea1f905cc", func := "abacist/abacistlaw01.UtfEncodes", spec := "utfEncodes", named := ["unicode/utf8.first", "unicode/utf8.acceptRanges"], apart := false, laid := [("unicode/utf8.acceptRanges", laid_unicode_utf8_acceptRanges), ("unicode/utf8.first", laid_unicode_utf8_first)], narrowed := true }
def UtfEncodesUptoSaid : Prop := utfEncodesUptoRow.holds Tryd.pinned (OpenSpec.upto utfEncodesSpec)

/-- 'abacistlaw01.UtfFirsts', WHERE WHAT IT READS IS OF BULK AT MOST 1048576: true; the input reads as it did. -/
def utfFirstsUptoRow : OpenClaim := { program := "ytilblnolfcbdlaadoor", sum := "51f9c2c1e99cbdbde9e4d4f2b81fa9272dcc306778a7345650a51b0ea1f905cc", func := "abacist/abacistlaw01.UtfFirsts", spec := "utfFirsts", named := ["unicode/utf8.first", "unicode/utf8.acceptRanges"], apart := false, laid := [("unicode/utf8.acceptRanges", laid_unicode_utf8_acceptRanges), ("unicode/utf8.first", laid_unicode_utf8_first)], narrowed := true }
def UtfFirstsUptoSaid : Prop := utfFirstsUptoRow.holds Tryd.pinned (OpenSpec.upto utfFirstsSpec)

/-- 'abacistlaw01.UtfTwo', WHERE WHAT IT READS IS OF BULK AT MOST 1048576: true; the input reads as it did. -/
def utfTwoUptoRow : OpenClaim := { program := "ytilblnolfcbdlaadoor", sum := "51f9c2c1e99cbdbde9e4d4f2b81fa9272dcc306778a7345650a51b0ea1f905cc", func := "abacist/abacistlaw01.UtfTwo", spec := "utfTwo", inPlace := ["internal/abi.NoEscape"], named := ["unicode/utf8.first", "unicode/utf8.acceptRanges"], apart := false, laid := [("unicode/utf8.acceptRanges", laid_unicode_utf8_acceptRanges), ("unicode/utf8.first", laid_unicode_utf8_first)], narrowed := true }
def UtfTwoUptoSaid : Prop := utfTwoUptoRow.holds Tryd.pinned (OpenSpec.upto utfTwoSpec)

end Rows
end Go.Proofs.YtilblnolfcbdlaaDoor
