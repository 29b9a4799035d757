/-
  No cell of these rows narrows 'for every input' (looked for: loops, veiled, ifaces, maps, wideKeys, modest, calm, conditions, laid).
  DERIVED. THE GIVEN ROWS OF THIS SEAT. 10 by the template 'for every input the law returns true; each argument reads behind the call as it read before'; 0 by the template 'total and deterministic' (their statements: YtaocnnebfnlgiaaTotals.lean).
  GIVEN WITH THE SEED: the statements are not yours to turn. If you find one false, say at which input.
  Laid BY PROGRAM, IN A SANDBOX (cutbox-rows.mjs): the forced cells as the released guide's own fill.sh prints them over the translation 6f1913e487da6c91… (all of the seat's roots in one cut). By AI agents, Wed Nov 11 2026. No macro, syntax, notation, axiom, sorry.
-/
import Derived.Test.YtaocnnebfnlgiaaChecked
import GoSem.Claim
import GoSem.ClaimJoined
import GoSem.ClaimMapViews
import Derived.JoinedTies
import Derived.KernelRfl
namespace Go.Proofs.Ytaocnnebfnlgiaa
/- THE CELL 'sum', in the pinned program and in every row, IS THE sha256 OF THE DUMP (.gsa) THAT YtaocnnebfnlgiaaProg.lean LOADS. Nothing in Lean hashes anything: it is a label: what it is worth is what the hold of that sum in a sandbox is worth. -/
noncomputable def Try.pinned : Pinned := { name := "ytaocnnebfnlgiaa", sum := "6f1913e487da6c911727a5d034c9db5b97b3b536871dda8dd1b9e5ce6d7faab3", checked := Try.checked }
namespace Rows
def none {H : Type} : Left H := { results := [], args := [] }

/-- 'abacistlaw03.ClusterFamilies': WHATEVER THE INPUT: true; the input reads as it did. -/
def clusterFamiliesSpec : ChangeSpec := { name := "clusterFamilies", fn := fun _ => fun
  | [d] => { results := [.lit (.bool true)], args := [d] }
  | _ => none }
def clusterFamiliesRow : OpenClaim := { program := "ytaocnnebfnlgiaa", sum := "6f1913e487da6c911727a5d034c9db5b97b3b536871dda8dd1b9e5ce6d7faab3", func := "abacist/abacistlaw03.ClusterFamilies", spec := "clusterFamilies", unfollowed := true, recurses := true, apart := false }
def ClusterFamiliesSaid : Prop := clusterFamiliesRow.holds Try.pinned (OpenSpec.ofChange clusterFamiliesSpec)

/-- ITS FALSE NEIGHBOUR: 'it returns false'. Refute it at one input. -/
def clusterFamiliesWrong : ChangeSpec := { name := "clusterFamilies", fn := fun _ => fun
  | [d] => { results := [.lit (.bool false)], args := [d] }
  | _ => none }
def ClusterFamiliesWrongFalsely : Prop := clusterFamiliesRow.holds Try.pinned (OpenSpec.ofChange clusterFamiliesWrong)

/-- 'abacistlaw03.ClusterJoins': WHATEVER THE INPUT: true; the input reads as it did. -/
def clusterJoinsSpec : ChangeSpec := { name := "clusterJoins", fn := fun _ => fun
  | [d1, d2] => { results := [.lit (.bool true)], args := [d1, d2] }
  | _ => none }
def clusterJoinsRow : OpenClaim := { program := "ytaocnnebfnlgiaa", sum := "6f1913e487da6c911727a5d034c9db5b97b3b536871dda8dd1b9e5ce6d7faab3", func := "abacist/abacistlaw03.ClusterJoins", spec := "clusterJoins", unfollowed := true, recurses := true, apart := false }
def ClusterJoinsSaid : Prop := clusterJoinsRow.holds Try.pinned (OpenSpec.ofChange clusterJoinsSpec)

/-- ITS FALSE NEIGHBOUR: 'it returns false'. Refute it at one input. -/
def clusterJoinsWrong : ChangeSpec := { name := "clusterJoins", fn := fun _ => fun
  | [d1, d2] => { results := [.lit (.bool false)], args := [d1, d2] }
  | _ => none }
def ClusterJoinsWrongFalsely : Prop := clusterJoinsRow.holds Try.pinned (OpenSpec.ofChange clusterJoinsWrong)

/-- 'abacistlaw03.ClusterTwo': WHATEVER THE INPUT: true; the input reads as it did. -/
def clusterTwoSpec : ChangeSpec := { name := "clusterTwo", fn := fun _ => fun
  | [d1, d2] => { results := [.lit (.bool true)], args := [d1, d2] }
  | _ => none }
def clusterTwoRow : OpenClaim := { program := "ytaocnnebfnlgiaa", sum := "6f1913e487da6c911727a5d034c9db5b97b3b536871dda8dd1b9e5ce6d7faab3", func := "abacist/abacistlaw03.ClusterTwo", spec := "clusterTwo", unfollowed := true, recurses := true, apart := false }
def ClusterTwoSaid : Prop := clusterTwoRow.holds Try.pinned (OpenSpec.ofChange clusterTwoSpec)

/-- ITS FALSE NEIGHBOUR: 'it returns false'. Refute it at one input. -/
def clusterTwoWrong : ChangeSpec := { name := "clusterTwo", fn := fun _ => fun
  | [d1, d2] => { results := [.lit (.bool false)], args := [d1, d2] }
  | _ => none }
def ClusterTwoWrongFalsely : Prop := clusterTwoRow.holds Try.pinned (OpenSpec.ofChange clusterTwoWrong)

/-- 'abacistlaw03.ClusterStarts': WHATEVER THE INPUT: true; the input reads as it did. -/
def clusterStartsSpec : ChangeSpec := { name := "clusterStarts", fn := fun _ => fun
  | [d1, d2] => { results := [.lit (.bool true)], args := [d1, d2] }
  | _ => none }
def clusterStartsRow : OpenClaim := { program := "ytaocnnebfnlgiaa", sum := "6f1913e487da6c911727a5d034c9db5b97b3b536871dda8dd1b9e5ce6d7faab3", func := "abacist/abacistlaw03.ClusterStarts", spec := "clusterStarts", unfollowed := true, recurses := true, apart := false }
def ClusterStartsSaid : Prop := clusterStartsRow.holds Try.pinned (OpenSpec.ofChange clusterStartsSpec)

/-- ITS FALSE NEIGHBOUR: 'it returns false'. Refute it at one input. -/
def clusterStartsWrong : ChangeSpec := { name := "clusterStarts", fn := fun _ => fun
  | [d1, d2] => { results := [.lit (.bool false)], args := [d1, d2] }
  | _ => none }
def ClusterStartsWrongFalsely : Prop := clusterStartsRow.holds Try.pinned (OpenSpec.ofChange clusterStartsWrong)

/-- 'abacistlaw03.ClusterFlags': WHATEVER THE INPUT: true; the input reads as it did. -/
def clusterFlagsSpec : ChangeSpec := { name := "clusterFlags", fn := fun _ => fun
  | [d1, d2] => { results := [.lit (.bool true)], args := [d1, d2] }
  | _ => none }
def clusterFlagsRow : OpenClaim := { program := "ytaocnnebfnlgiaa", sum := "6f1913e487da6c911727a5d034c9db5b97b3b536871dda8dd1b9e5ce6d7faab3", func := "abacist/abacistlaw03.ClusterFlags", spec := "clusterFlags", unfollowed := true, recurses := true, apart := false }
def ClusterFlagsSaid : Prop := clusterFlagsRow.holds Try.pinned (OpenSpec.ofChange clusterFlagsSpec)

/-- ITS FALSE NEIGHBOUR: 'it returns false'. Refute it at one input. -/
def clusterFlagsWrong : ChangeSpec := { name := "clusterFlags", fn := fun _ => fun
  | [d1, d2] => { results := [.lit (.bool false)], args := [d1, d2] }
  | _ => none }
def ClusterFlagsWrongFalsely : Prop := clusterFlagsRow.holds Try.pinned (OpenSpec.ofChange clusterFlagsWrong)

/-- 'abacistlaw04.PlaceNear': WHATEVER THE INPUT: true; the input reads as it did. -/
def placeNearSpec : ChangeSpec := { name := "placeNear", fn := fun _ => fun
  | [d1, d2] => { results := [.lit (.bool true)], args := [d1, d2] }
  | _ => none }
def placeNearRow : OpenClaim := { program := "ytaocnnebfnlgiaa", sum := "6f1913e487da6c911727a5d034c9db5b97b3b536871dda8dd1b9e5ce6d7faab3", func := "abacist/abacistlaw04.PlaceNear", spec := "placeNear", unfollowed := true, recurses := true, apart := false }
def PlaceNearSaid : Prop := placeNearRow.holds Try.pinned (OpenSpec.ofChange placeNearSpec)

/-- ITS FALSE NEIGHBOUR: 'it returns false'. Refute it at one input. -/
def placeNearWrong : ChangeSpec := { name := "placeNear", fn := fun _ => fun
  | [d1, d2] => { results := [.lit (.bool false)], args := [d1, d2] }
  | _ => none }
def PlaceNearWrongFalsely : Prop := placeNearRow.holds Try.pinned (OpenSpec.ofChange placeNearWrong)

/-- 'abacistlaw04.PlaceOffsets': WHATEVER THE INPUT: true; the input reads as it did. -/
def placeOffsetsSpec : ChangeSpec := { name := "placeOffsets", fn := fun _ => fun
  | [d1, d2] => { results := [.lit (.bool true)], args := [d1, d2] }
  | _ => none }
def placeOffsetsRow : OpenClaim := { program := "ytaocnnebfnlgiaa", sum := "6f1913e487da6c911727a5d034c9db5b97b3b536871dda8dd1b9e5ce6d7faab3", func := "abacist/abacistlaw04.PlaceOffsets", spec := "placeOffsets", unfollowed := true, recurses := true, apart := false }
def PlaceOffsetsSaid : Prop := placeOffsetsRow.holds Try.pinned (OpenSpec.ofChange placeOffsetsSpec)

/-- ITS FALSE NEIGHBOUR: 'it returns false'. Refute it at one input. -/
def placeOffsetsWrong : ChangeSpec := { name := "placeOffsets", fn := fun _ => fun
  | [d1, d2] => { results := [.lit (.bool false)], args := [d1, d2] }
  | _ => none }
def PlaceOffsetsWrongFalsely : Prop := placeOffsetsRow.holds Try.pinned (OpenSpec.ofChange placeOffsetsWrong)

/-- 'abacistlaw04.PlaceSplices': WHATEVER THE INPUT: true; the input reads as it did. -/
def placeSplicesSpec : ChangeSpec := { name := "placeSplices", fn := fun _ => fun
  | [d1, d2, d3, d4] => { results := [.lit (.bool true)], args := [d1, d2, d3, d4] }
  | _ => none }
def placeSplicesRow : OpenClaim := { program := "ytaocnnebfnlgiaa", sum := "6f1913e487da6c911727a5d034c9db5b97b3b536871dda8dd1b9e5ce6d7faab3", func := "abacist/abacistlaw04.PlaceSplices", spec := "placeSplices", unfollowed := true, recurses := true, apart := false }
def PlaceSplicesSaid : Prop := placeSplicesRow.holds Try.pinned (OpenSpec.ofChange placeSplicesSpec)

/-- ITS FALSE NEIGHBOUR: 'it returns false'. Refute it at one input. -/
def placeSplicesWrong : ChangeSpec := { name := "placeSplices", fn := fun _ => fun
  | [d1, d2, d3, d4] => { results := [.lit (.bool false)], args := [d1, d2, d3, d4] }
  | _ => none }
def PlaceSplicesWrongFalsely : Prop := placeSplicesRow.holds Try.pinned (OpenSpec.ofChange placeSplicesWrong)

/-- 'abacistlaw04.PlaceSlices': WHATEVER THE INPUT: true; the input reads as it did. -/
def placeSlicesSpec : ChangeSpec := { name := "placeSlices", fn := fun _ => fun
  | [d1, d2, d3] => { results := [.lit (.bool true)], args := [d1, d2, d3] }
  | _ => none }
def placeSlicesRow : OpenClaim := { program := "ytaocnnebfnlgiaa", sum := "6f1913e487da6c911727a5d034c9db5b97b3b536871dda8dd1b9e5ce6d7faab3", func := "abacist/abacistlaw04.PlaceSlices", spec := "placeSlices", unfollowed := true, recurses := true, apart := false }
def PlaceSlicesSaid : Prop := placeSlicesRow.holds Try.pinned (OpenSpec.ofChange placeSlicesSpec)

/-- ITS FALSE NEIGHBOUR: 'it returns false'. Refute it at one input. -/
def placeSlicesWrong : ChangeSpec := { name := "placeSlices", fn := fun _ => fun
  | [d1, d2, d3] => { results := [.lit (.bool false)], args := [d1, d2, d3] }
  | _ => none }
def PlaceSlicesWrongFalsely : Prop := placeSlicesRow.holds Try.pinned (OpenSpec.ofChange placeSlicesWrong)

/-- 'abacistlaw03.ClusterPlain': WHATEVER THE INPUT: true; the input reads as it did. -/
def clusterPlainSpec : ChangeSpec := { name := "clusterPlain", fn := fun _ => fun
  | [d] => { results := [.lit (.bool true)], args := [d] }
  | _ => none }
def clusterPlainRow : OpenClaim := { program := "ytaocnnebfnlgiaa", sum := "6f1913e487da6c911727a5d034c9db5b97b3b536871dda8dd1b9e5ce6d7faab3", func := "abacist/abacistlaw03.ClusterPlain", spec := "clusterPlain", inPlace := ["internal/abi.NoEscape"], unfollowed := true, recurses := true, apart := false }
def ClusterPlainSaid : Prop := clusterPlainRow.holds Try.pinned (OpenSpec.ofChange clusterPlainSpec)

/-- ITS FALSE NEIGHBOUR: 'it returns false'. Refute it at one input. -/
def clusterPlainWrong : ChangeSpec := { name := "clusterPlain", fn := fun _ => fun
  | [d] => { results := [.lit (.bool false)], args := [d] }
  | _ => none }
def ClusterPlainWrongFalsely : Prop := clusterPlainRow.holds Try.pinned (OpenSpec.ofChange clusterPlainWrong)

/- THE SECOND FORM. 'bulk': how many values and letters a reading holds, each counted each time it is reached (what is shared counts as often as it is met; a slice's spare places count too). A statement '..UptoSaid' is the law's where the arguments, and the package variables that the reading takes, are together of bulk at most 1048576: NARROWER than '..Said'. Prove '..Said' where nothing that the law and all that it calls make is longer than what came in: it says more and counts as full. Else prove '..UptoSaid'. A law counts once. -/
mutual
def uptoBulk {H : Type} : DataW H → Nat
  | .lit (.string bytes) => bytes.length + 1
  | .lit _ => 1
  | .nil => 1
  | .ptr d => uptoBulk d + 1
  | .slice elems spare => uptoBulkAll elems + uptoBulkAll spare + 1
  | .agg parts => uptoBulkAll parts + 1
  | .iface _ d => uptoBulk d + 1
  | .map entries => uptoBulkEntries entries + 1
  | .held _ => 1
def uptoBulkAll {H : Type} : List (DataW H) → Nat
  | [] => 0
  | d :: r => uptoBulk d + uptoBulkAll r
def uptoBulkEntries {H : Type} : List (Lit × DataW H) → Nat
  | [] => 0
  | x :: r => uptoBulkEntry x + uptoBulkEntries r
def uptoBulkEntry {H : Type} : Lit × DataW H → Nat
  | (.string bytes, d) => bytes.length + uptoBulk d + 1
  | (_, d) => uptoBulk d + 1
 end
def uptoSmall : (H : Type) → List (DataW H) → Bool := fun _ ds => decide (uptoBulkAll ds ≤ 1048576)
def OpenSpec.upto (s : _root_.Go.ChangeSpec) : _root_.Go.OpenSpec := { _root_.Go.OpenSpec.ofChange s with cond := some uptoSmall }

/-- 'abacistlaw03.ClusterFamilies', WHERE WHAT IT READS IS OF BULK AT MOST 1048576: true; the input reads as it did. -/
def clusterFamiliesUptoRow : OpenClaim := { program := "ytaocnnebfnlgiaa", sum := "6f1913e487da6c911727a5d034c9db5b97b3b536871dda8dd1b9e5ce6d7faab3", func := "abacist/abacistlaw03.ClusterFamilies", spec := "clusterFamilies", unfollowed := true, recurses := true, apart := false, narrowed := true }
def ClusterFamiliesUptoSaid : Prop := clusterFamiliesUptoRow.holds Try.pinned (OpenSpec.upto clusterFamiliesSpec)

/-- 'abacistlaw03.ClusterJoins', WHERE WHAT IT READS IS OF BULK AT MOST 1048576: true; the input reads as it did. -/
def clusterJoinsUptoRow : OpenClaim := { program := "ytaocnnebfnlgiaa", sum := "6f1913e487da6c911727a5d034c9db5b97b3b536871dda8dd1b9e5ce6d7faab3", func := "abacist/abacistlaw03.ClusterJoins", spec := "clusterJoins", unfollowed := true, recurses := true, apart := false, narrowed := true }
def ClusterJoinsUptoSaid : Prop := clusterJoinsUptoRow.holds Try.pinned (OpenSpec.upto clusterJoinsSpec)

/-- 'abacistlaw03.ClusterTwo', WHERE WHAT IT READS IS OF BULK AT MOST 1048576: true; the input reads as it did. -/
def clusterTwoUptoRow : OpenClaim := { program := "ytaocnnebfnlgiaa", sum := "6f1913e487da6c911727a5d034c9db5b97b3b536871dda8dd1b9e5ce6d7faab3", func := "abacist/abacistlaw03.ClusterTwo", spec := "clusterTwo", unfollowed := true, recurses := true, apart := false, narrowed := true }
def ClusterTwoUptoSaid : Prop := clusterTwoUptoRow.holds Try.pinned (OpenSpec.upto clusterTwoSpec)

/-- 'abacistlaw03.ClusterStarts', WHERE WHAT IT READS IS OF BULK AT MOST 1048576: true; the input reads as it did. -/
def clusterStartsUptoRow : OpenClaim := { program := "ytaocnnebfnlgiaa", sum := "6f1913e487da6c911727a5d034c9db5b97b3b536871dda8dd1b9e5ce6d7faab3", func := "abacist/abacistlaw03.ClusterStarts", spec := "clusterStarts", unfollowed := true, recurses := true, apart := false, narrowed := true }
def ClusterStartsUptoSaid : Prop := clusterStartsUptoRow.holds Try.pinned (OpenSpec.upto clusterStartsSpec)

/-- 'abacistlaw03.ClusterFlags', WHERE WHAT IT READS IS OF BULK AT MOST 1048576: true; the input reads as it did. -/
def clusterFlagsUptoRow : OpenClaim := { program := "ytaocnnebfnlgiaa", sum := "6f1913e487da6c911727a5d034c9db5b97b3b536871dda8dd1b9e5ce6d7faab3", func := "abacist/abacistlaw03.ClusterFlags", spec := "clusterFlags", unfollowed := true, recurses := true, apart := false, narrowed := true }
def ClusterFlagsUptoSaid : Prop := clusterFlagsUptoRow.holds Try.pinned (OpenSpec.upto clusterFlagsSpec)

/-- 'abacistlaw04.PlaceNear', WHERE WHAT IT READS IS OF BULK AT MOST 1048576: true; the input reads as it did. -/
def placeNearUptoRow : OpenClaim := { program := "ytaocnnebfnlgiaa", sum := "6f1913e487da6c911727a5d034c9db5b97b3b536871dda8dd1b9e5ce6d7faab3", func := "abacist/abacistlaw04.PlaceNear", spec := "placeNear", unfollowed := true, recurses := true, apart := false, narrowed := true }
def PlaceNearUptoSaid : Prop := placeNearUptoRow.holds Try.pinned (OpenSpec.upto placeNearSpec)

/-- 'abacistlaw04.PlaceOffsets', WHERE WHAT IT READS IS OF BULK AT MOST 1048576: true; the input reads as it did. -/
def placeOffsetsUptoRow : OpenClaim := { program := "ytaocnnebfnlgiaa", sum := "6f1913e487da6c911727a5d034c9db5b97b3b536871dda8dd1b9e5ce6d7faab3", func := "abacist/abacistlaw04.PlaceOffsets", spec := "placeOffsets", unfollowed := true, recurses := true, apart := false, narrowed := true }
def PlaceOffsetsUptoSaid : Prop := placeOffsetsUptoRow.holds Try.pinned (OpenSpec.upto placeOffsetsSpec)

/-- 'abacistlaw04.PlaceSplices', WHERE WHAT IT READS IS OF BULK AT MOST 1048576: true; the input reads as it did. -/
def placeSplicesUptoRow : OpenClaim := { program := "ytaocnnebfnlgiaa", sum := "6f1913e487da6c911727a5d034c9db5b97b3b536871dda8dd1b9e5ce6d7faab3", func := "abacist/abacistlaw04.PlaceSplices", spec := "placeSplices", unfollowed := true, recurses := true, apart := false, narrowed := true }
def PlaceSplicesUptoSaid : Prop := placeSplicesUptoRow.holds Try.pinned (OpenSpec.upto placeSplicesSpec)

/-- 'abacistlaw04.PlaceSlices', WHERE WHAT IT READS IS OF BULK AT MOST 1048576: true; the input reads as it did. -/
def placeSlicesUptoRow : OpenClaim := { program := "ytaocnnebfnlgiaa", sum := "6f1913e487da6c911727a5d034c9db5b97b3b536871dda8dd1b9e5ce6d7faab3", func := "abacist/abacistlaw04.PlaceSlices", spec := "placeSlices", unfollowed := true, recurses := true, apart := false, narrowed := true }
def PlaceSlicesUptoSaid : Prop := placeSlicesUptoRow.holds Try.pinned (OpenSpec.upto placeSlicesSpec)

/-- 'abacistlaw03.ClusterPlain', WHERE WHAT IT READS IS OF BULK AT MOST 1048576: true; the input reads as it did. -/
def clusterPlainUptoRow : OpenClaim := { program := "ytaocnnebfnlgiaa", sum := "6f1913e487da6c911727a5d034c9db5b97b3b536871dda8dd1b9e5ce6d7faab3", func := "abacist/abacistlaw03.ClusterPlain", spec := "clusterPlain", inPlace := ["internal/abi.NoEscape"], unfollowed := true, recurses := true, apart := false, narrowed := true }
def ClusterPlainUptoSaid : Prop := clusterPlainUptoRow.holds Try.pinned (OpenSpec.upto clusterPlainSpec)

end Rows
end Go.Proofs.Ytaocnnebfnlgiaa
