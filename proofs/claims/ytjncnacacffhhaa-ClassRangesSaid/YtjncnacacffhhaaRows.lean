/-
  No cell of these rows narrows 'for every input' (looked for: loops, veiled, ifaces, maps, wideKeys, modest, calm, conditions, laid).
  DERIVED. THE GIVEN ROWS OF THIS SEAT. 6 by the template 'for every input the law returns true; each argument reads behind the call as it read before'; 0 by the template 'total and deterministic' (their statements: YtjncnacacffhhaaTotals.lean).
  GIVEN WITH THE SEED: the statements are not yours to turn. If you find one false, say at which input.
  Laid BY PROGRAM, IN A SANDBOX (cutbox-rows.mjs): the forced cells as the released guide's own fill.sh prints them over the translation 699e59468f3ba34a… (all of the seat's roots in one cut). By AI agents, Wed Nov 11 2026. No macro, syntax, notation, axiom, sorry.
-/
import Derived.Test.YtjncnacacffhhaaChecked
import GoSem.Claim
import GoSem.ClaimJoined
import GoSem.ClaimMapViews
import Derived.JoinedTies
import Derived.KernelRfl
namespace Go.Proofs.Ytjncnacacffhhaa
/- THE CELL 'sum', in the pinned program and in every row, IS THE sha256 OF THE DUMP (.gsa) THAT YtjncnacacffhhaaProg.lean LOADS. Nothing in Lean hashes anything: it is a label: what it is worth is what the hold of that sum in a sandbox is worth. -/
noncomputable def Try.pinned : Pinned := { name := "ytjncnacacffhhaa", sum := "699e59468f3ba34a30b3bbc4ad7ee448037f01ab895eb9234e6b85345b4c716e", checked := Try.checked }
namespace Rows
def none {H : Type} : Left H := { results := [], args := [] }

/-- 'abacistlaw02.ClassRanges': WHATEVER THE INPUT: true; the input reads as it did. -/
def classRangesSpec : ChangeSpec := { name := "classRanges", fn := fun _ => fun
  | [d1, d2, d3] => { results := [.lit (.bool true)], args := [d1, d2, d3] }
  | _ => none }
def classRangesRow : OpenClaim := { program := "ytjncnacacffhhaa", sum := "699e59468f3ba34a30b3bbc4ad7ee448037f01ab895eb9234e6b85345b4c716e", func := "abacist/abacistlaw02.ClassRanges", spec := "classRanges", unfollowed := true, recurses := true, apart := false }
def ClassRangesSaid : Prop := classRangesRow.holds Try.pinned (OpenSpec.ofChange classRangesSpec)

/-- ITS FALSE NEIGHBOUR: 'it returns false'. Refute it at one input. -/
def classRangesWrong : ChangeSpec := { name := "classRanges", fn := fun _ => fun
  | [d1, d2, d3] => { results := [.lit (.bool false)], args := [d1, d2, d3] }
  | _ => none }
def ClassRangesWrongFalsely : Prop := classRangesRow.holds Try.pinned (OpenSpec.ofChange classRangesWrong)

/-- 'abacistlaw02.ClassHangul': WHATEVER THE INPUT: true; the input reads as it did. -/
def classHangulSpec : ChangeSpec := { name := "classHangul", fn := fun _ => fun
  | [d1, d2, d3] => { results := [.lit (.bool true)], args := [d1, d2, d3] }
  | _ => none }
def classHangulRow : OpenClaim := { program := "ytjncnacacffhhaa", sum := "699e59468f3ba34a30b3bbc4ad7ee448037f01ab895eb9234e6b85345b4c716e", func := "abacist/abacistlaw02.ClassHangul", spec := "classHangul", unfollowed := true, recurses := true, apart := false }
def ClassHangulSaid : Prop := classHangulRow.holds Try.pinned (OpenSpec.ofChange classHangulSpec)

/-- ITS FALSE NEIGHBOUR: 'it returns false'. Refute it at one input. -/
def classHangulWrong : ChangeSpec := { name := "classHangul", fn := fun _ => fun
  | [d1, d2, d3] => { results := [.lit (.bool false)], args := [d1, d2, d3] }
  | _ => none }
def ClassHangulWrongFalsely : Prop := classHangulRow.holds Try.pinned (OpenSpec.ofChange classHangulWrong)

/-- 'abacistlaw02.ClassOf': WHATEVER THE INPUT: true; the input reads as it did. -/
def classOfSpec : ChangeSpec := { name := "classOf", fn := fun _ => fun
  | [d1, d2] => { results := [.lit (.bool true)], args := [d1, d2] }
  | _ => none }
def classOfRow : OpenClaim := { program := "ytjncnacacffhhaa", sum := "699e59468f3ba34a30b3bbc4ad7ee448037f01ab895eb9234e6b85345b4c716e", func := "abacist/abacistlaw02.ClassOf", spec := "classOf", unfollowed := true, recurses := true, apart := false }
def ClassOfSaid : Prop := classOfRow.holds Try.pinned (OpenSpec.ofChange classOfSpec)

/-- ITS FALSE NEIGHBOUR: 'it returns false'. Refute it at one input. -/
def classOfWrong : ChangeSpec := { name := "classOf", fn := fun _ => fun
  | [d1, d2] => { results := [.lit (.bool false)], args := [d1, d2] }
  | _ => none }
def ClassOfWrongFalsely : Prop := classOfRow.holds Try.pinned (OpenSpec.ofChange classOfWrong)

/-- 'abacistlaw02.ClassBlanks': WHATEVER THE INPUT: true; the input reads as it did. -/
def classBlanksSpec : ChangeSpec := { name := "classBlanks", fn := fun _ => fun
  | [d] => { results := [.lit (.bool true)], args := [d] }
  | _ => none }
def classBlanksRow : OpenClaim := { program := "ytjncnacacffhhaa", sum := "699e59468f3ba34a30b3bbc4ad7ee448037f01ab895eb9234e6b85345b4c716e", func := "abacist/abacistlaw02.ClassBlanks", spec := "classBlanks", unfollowed := true, recurses := true, apart := false }
def ClassBlanksSaid : Prop := classBlanksRow.holds Try.pinned (OpenSpec.ofChange classBlanksSpec)

/-- ITS FALSE NEIGHBOUR: 'it returns false'. Refute it at one input. -/
def classBlanksWrong : ChangeSpec := { name := "classBlanks", fn := fun _ => fun
  | [d] => { results := [.lit (.bool false)], args := [d] }
  | _ => none }
def ClassBlanksWrongFalsely : Prop := classBlanksRow.holds Try.pinned (OpenSpec.ofChange classBlanksWrong)

/-- 'abacistlaw02.ClassNames': WHATEVER THE INPUT: true; the input reads as it did. -/
def classNamesSpec : ChangeSpec := { name := "classNames", fn := fun _ => fun
  | [d1, d2] => { results := [.lit (.bool true)], args := [d1, d2] }
  | _ => none }
def classNamesRow : OpenClaim := { program := "ytjncnacacffhhaa", sum := "699e59468f3ba34a30b3bbc4ad7ee448037f01ab895eb9234e6b85345b4c716e", func := "abacist/abacistlaw02.ClassNames", spec := "classNames", unfollowed := true, recurses := true, apart := false }
def ClassNamesSaid : Prop := classNamesRow.holds Try.pinned (OpenSpec.ofChange classNamesSpec)

/-- ITS FALSE NEIGHBOUR: 'it returns false'. Refute it at one input. -/
def classNamesWrong : ChangeSpec := { name := "classNames", fn := fun _ => fun
  | [d1, d2] => { results := [.lit (.bool false)], args := [d1, d2] }
  | _ => none }
def ClassNamesWrongFalsely : Prop := classNamesRow.holds Try.pinned (OpenSpec.ofChange classNamesWrong)

/-- 'abacistlaw02.ClassPlain': WHATEVER THE INPUT: true; the input reads as it did. -/
def classPlainSpec : ChangeSpec := { name := "classPlain", fn := fun _ => fun
  | [d1, d2] => { results := [.lit (.bool true)], args := [d1, d2] }
  | _ => none }
def classPlainRow : OpenClaim := { program := "ytjncnacacffhhaa", sum := "699e59468f3ba34a30b3bbc4ad7ee448037f01ab895eb9234e6b85345b4c716e", func := "abacist/abacistlaw02.ClassPlain", spec := "classPlain", unfollowed := true, recurses := true, apart := false }
def ClassPlainSaid : Prop := classPlainRow.holds Try.pinned (OpenSpec.ofChange classPlainSpec)

/-- ITS FALSE NEIGHBOUR: 'it returns false'. Refute it at one input. -/
def classPlainWrong : ChangeSpec := { name := "classPlain", fn := fun _ => fun
  | [d1, d2] => { results := [.lit (.bool false)], args := [d1, d2] }
  | _ => none }
def ClassPlainWrongFalsely : Prop := classPlainRow.holds Try.pinned (OpenSpec.ofChange classPlainWrong)

/- THE SECOND FORM. 'bulk': how many values and letters a reading holds, each counted each time it is reached (what is shared counts as often as it is met; a slice's spare places count too). A statement '..UptoSaid' is the law's where the arguments, and the package variables that the reading takes, are together of bulk at most 1048576: NARROWER than '..Said'. Prove '..Said' where nothing that the law and all that it calls make is longer than what came in: it says more and counts as full. Else prove '..UptoSaid'. A law counts once. -/
mutual
def uptoBulk {H : Type} : DataW H → Nat
  | .lit (.string bytes) => bytes.length + 1
  | .lit _ => 1
  | .nil => 1
  | .ptr d => uptoBulk d + 1
  | .slice elems spare => uptoBulkAll elems + uptoBulkAll spare + 1
  | .agg parts => uptoBulkAll parts + 1
  | .iface _ d => uptoBulk d + 1
  | .map entries => uptoBulkEntries entries + 1
  | .held _ => 1
def uptoBulkAll {H : Type} : List (DataW H) → Nat
  | [] => 0
  | d :: r => uptoBulk d + uptoBulkAll r
def uptoBulkEntries {H : Type} : List (Lit × DataW H) → Nat
  | [] => 0
  | x :: r => uptoBulkEntry x + uptoBulkEntries r
def uptoBulkEntry {H : Type} : Lit × DataW H → Nat
  | (.string bytes, d) => bytes.length + uptoBulk d + 1
  | (_, d) => uptoBulk d + 1
 end
def uptoSmall : (H : Type) → List (DataW H) → Bool := fun _ ds => decide (uptoBulkAll ds ≤ 1048576)
def OpenSpec.upto (s : _root_.Go.ChangeSpec) : _root_.Go.OpenSpec := { _root_.Go.OpenSpec.ofChange s with cond := some uptoSmall }

/-- 'abacistlaw02.ClassRanges', WHERE WHAT IT READS IS OF BULK AT MOST 1048576: true; the input reads as it did. -/
def classRangesUptoRow : OpenClaim := { program := "ytjncnacacffhhaa", sum := "699e59468f3ba34a30b3bbc4ad7ee448037f01ab895eb9234e6b85345b4c716e", func := "abacist/abacistlaw02.ClassRanges", spec := "classRanges", unfollowed := true, recurses := true, apart := false, narrowed := true }
def ClassRangesUptoSaid : Prop := classRangesUptoRow.holds Try.pinned (OpenSpec.upto classRangesSpec)

/-- 'abacistlaw02.ClassHangul', WHERE WHAT IT READS IS OF BULK AT MOST 1048576: true; the input reads as it did. -/
def classHangulUptoRow : OpenClaim := { program := "ytjncnacacffhhaa", sum := "699e59468f3ba34a30b3bbc4ad7ee448037f01ab895eb9234e6b85345b4c716e", func := "abacist/abacistlaw02.ClassHangul", spec := "classHangul", unfollowed := true, recurses := true, apart := false, narrowed := true }
def ClassHangulUptoSaid : Prop := classHangulUptoRow.holds Try.pinned (OpenSpec.upto classHangulSpec)

/-- 'abacistlaw02.ClassOf', WHERE WHAT IT READS IS OF BULK AT MOST 1048576: true; the input reads as it did. -/
def classOfUptoRow : OpenClaim := { program := "ytjncnacacffhhaa", sum := "699e59468f3ba34a30b3bbc4ad7ee448037f01ab895eb9234e6b85345b4c716e", func := "abacist/abacistlaw02.ClassOf", spec := "classOf", unfollowed := true, recurses := true, apart := false, narrowed := true }
def ClassOfUptoSaid : Prop := classOfUptoRow.holds Try.pinned (OpenSpec.upto classOfSpec)

/-- 'abacistlaw02.ClassBlanks', WHERE WHAT IT READS IS OF BULK AT MOST 1048576: true; the input reads as it did. -/
def classBlanksUptoRow : OpenClaim := { program := "ytjncnacacffhhaa", sum := "699e59468f3ba34a30b3bbc4ad7ee448037f01ab895eb9234e6b85345b4c716e", func := "abacist/abacistlaw02.ClassBlanks", spec := "classBlanks", unfollowed := true, recurses := true, apart := false, narrowed := true }
def ClassBlanksUptoSaid : Prop := classBlanksUptoRow.holds Try.pinned (OpenSpec.upto classBlanksSpec)

/-- 'abacistlaw02.ClassNames', WHERE WHAT IT READS IS OF BULK AT MOST 1048576: true; the input reads as it did. -/
def classNamesUptoRow : OpenClaim := { program := "ytjncnacacffhhaa", sum := "699e59468f3ba34a30b3bbc4ad7ee448037f01ab895eb9234e6b85345b4c716e", func := "abacist/abacistlaw02.ClassNames", spec := "classNames", unfollowed := true, recurses := true, apart := false, narrowed := true }
def ClassNamesUptoSaid : Prop := classNamesUptoRow.holds Try.pinned (OpenSpec.upto classNamesSpec)

/-- 'abacistlaw02.ClassPlain', WHERE WHAT IT READS IS OF BULK AT MOST 1048576: true; the input reads as it did. -/
def classPlainUptoRow : OpenClaim := { program := "ytjncnacacffhhaa", sum := "699e59468f3ba34a30b3bbc4ad7ee448037f01ab895eb9234e6b85345b4c716e", func := "abacist/abacistlaw02.ClassPlain", spec := "classPlain", unfollowed := true, recurses := true, apart := false, narrowed := true }
def ClassPlainUptoSaid : Prop := classPlainUptoRow.holds Try.pinned (OpenSpec.upto classPlainSpec)

end Rows
end Go.Proofs.Ytjncnacacffhhaa
