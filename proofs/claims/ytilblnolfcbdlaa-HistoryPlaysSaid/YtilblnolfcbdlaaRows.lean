/-
  No cell of these rows narrows 'for every input' (looked for: loops, veiled, ifaces, maps, wideKeys, modest, calm, conditions, laid).
  DERIVED. THE GIVEN ROWS OF THIS SEAT. 7 by the template 'for every input the law returns true; each argument reads behind the call as it read before'; 0 by the template 'total and deterministic' (their statements: YtilblnolfcbdlaaTotals.lean).
  GIVEN WITH THE SEED: the statements are not yours to turn. If you find one false, say at which input.
  Laid BY PROGRAM, IN A SANDBOX (cutbox-rows.mjs): the forced cells as the released guide's own fill.sh prints them over the translation e345003ceb3517f2… (all of the seat's roots in one cut). By AI agents, Wed Nov 11 2026. No macro, syntax, notation, axiom, sorry.
-/
import Derived.Test.YtilblnolfcbdlaaChecked
import GoSem.Claim
import GoSem.ClaimJoined
import GoSem.ClaimMapViews
import Derived.JoinedTies
import Derived.KernelRfl
namespace Go.Proofs.Ytilblnolfcbdlaa
/- THE CELL 'sum', in the pinned program and in every row, IS THE sha256 OF THE DUMP (.gsa) THAT YtilblnolfcbdlaaProg.lean LOADS. Nothing in Lean hashes anything: it is a label: what it is worth is what the hold of that sum in a sandbox is worth. -/
noncomputable def Try.pinned : Pinned := { name := "ytilblnolfcbdlaa", sum := "e345003ceb3517f279469d376d22667eb5d24c7aed32a0bd146d20dee4fadf76", checked := Try.checked }
namespace Rows
def none {H : Type} : Left H := { results := [], args := [] }

/-- 'abacistlaw01.UtfRow': WHATEVER THE INPUT: true; the input reads as it did. -/
def utfRowSpec : ChangeSpec := { name := "utfRow", fn := fun _ => fun
  | [d1, d2] => { results := [.lit (.bool true)], args := [d1, d2] }
  | _ => none }
def utfRowRow : OpenClaim := { program := "ytilblnolfcbdlaa", sum := "e345003ceb3517f279469d376d22667eb5d24c7aed32a0bd146d20dee4fadf76", func := "abacist/abacistlaw01.UtfRow", spec := "utfRow", apart := false }
def UtfRowSaid : Prop := utfRowRow.holds Try.pinned (OpenSpec.ofChange utfRowSpec)

/-- ITS FALSE NEIGHBOUR: 'it returns false'. Refute it at one input. -/
def utfRowWrong : ChangeSpec := { name := "utfRow", fn := fun _ => fun
  | [d1, d2] => { results := [.lit (.bool false)], args := [d1, d2] }
  | _ => none }
def UtfRowWrongFalsely : Prop := utfRowRow.holds Try.pinned (OpenSpec.ofChange utfRowWrong)

/-- 'abacistlaw22.HistoryNews': WHATEVER THE INPUT: true; the input reads as it did. -/
def historyNewsSpec : ChangeSpec := { name := "historyNews", fn := fun _ => fun
  | [d] => { results := [.lit (.bool true)], args := [d] }
  | _ => none }
def historyNewsRow : OpenClaim := { program := "ytilblnolfcbdlaa", sum := "e345003ceb3517f279469d376d22667eb5d24c7aed32a0bd146d20dee4fadf76", func := "abacist/abacistlaw22.HistoryNews", spec := "historyNews", apart := false }
def HistoryNewsSaid : Prop := historyNewsRow.holds Try.pinned (OpenSpec.ofChange historyNewsSpec)

/-- ITS FALSE NEIGHBOUR: 'it returns false'. Refute it at one input. -/
def historyNewsWrong : ChangeSpec := { name := "historyNews", fn := fun _ => fun
  | [d] => { results := [.lit (.bool false)], args := [d] }
  | _ => none }
def HistoryNewsWrongFalsely : Prop := historyNewsRow.holds Try.pinned (OpenSpec.ofChange historyNewsWrong)

/-- 'abacistlaw22.HistoryRuns': WHATEVER THE INPUT: true; the input reads as it did. -/
def historyRunsSpec : ChangeSpec := { name := "historyRuns", fn := fun _ => fun
  | [d1, d2, d3, d4] => { results := [.lit (.bool true)], args := [d1, d2, d3, d4] }
  | _ => none }
def historyRunsRow : OpenClaim := { program := "ytilblnolfcbdlaa", sum := "e345003ceb3517f279469d376d22667eb5d24c7aed32a0bd146d20dee4fadf76", func := "abacist/abacistlaw22.HistoryRuns", spec := "historyRuns", apart := false }
def HistoryRunsSaid : Prop := historyRunsRow.holds Try.pinned (OpenSpec.ofChange historyRunsSpec)

/-- ITS FALSE NEIGHBOUR: 'it returns false'. Refute it at one input. -/
def historyRunsWrong : ChangeSpec := { name := "historyRuns", fn := fun _ => fun
  | [d1, d2, d3, d4] => { results := [.lit (.bool false)], args := [d1, d2, d3, d4] }
  | _ => none }
def HistoryRunsWrongFalsely : Prop := historyRunsRow.holds Try.pinned (OpenSpec.ofChange historyRunsWrong)

/-- 'abacistlaw22.HistoryOld': WHATEVER THE INPUT: true; the input reads as it did. -/
def historyOldSpec : ChangeSpec := { name := "historyOld", fn := fun _ => fun
  | [d1, d2] => { results := [.lit (.bool true)], args := [d1, d2] }
  | _ => none }
def historyOldRow : OpenClaim := { program := "ytilblnolfcbdlaa", sum := "e345003ceb3517f279469d376d22667eb5d24c7aed32a0bd146d20dee4fadf76", func := "abacist/abacistlaw22.HistoryOld", spec := "historyOld", apart := false }
def HistoryOldSaid : Prop := historyOldRow.holds Try.pinned (OpenSpec.ofChange historyOldSpec)

/-- ITS FALSE NEIGHBOUR: 'it returns false'. Refute it at one input. -/
def historyOldWrong : ChangeSpec := { name := "historyOld", fn := fun _ => fun
  | [d1, d2] => { results := [.lit (.bool false)], args := [d1, d2] }
  | _ => none }
def HistoryOldWrongFalsely : Prop := historyOldRow.holds Try.pinned (OpenSpec.ofChange historyOldWrong)

/-- 'abacistlaw22.HistoryBack': WHATEVER THE INPUT: true; the input reads as it did. -/
def historyBackSpec : ChangeSpec := { name := "historyBack", fn := fun _ => fun
  | [d1, d2, d3] => { results := [.lit (.bool true)], args := [d1, d2, d3] }
  | _ => none }
def historyBackRow : OpenClaim := { program := "ytilblnolfcbdlaa", sum := "e345003ceb3517f279469d376d22667eb5d24c7aed32a0bd146d20dee4fadf76", func := "abacist/abacistlaw22.HistoryBack", spec := "historyBack", apart := false }
def HistoryBackSaid : Prop := historyBackRow.holds Try.pinned (OpenSpec.ofChange historyBackSpec)

/-- ITS FALSE NEIGHBOUR: 'it returns false'. Refute it at one input. -/
def historyBackWrong : ChangeSpec := { name := "historyBack", fn := fun _ => fun
  | [d1, d2, d3] => { results := [.lit (.bool false)], args := [d1, d2, d3] }
  | _ => none }
def HistoryBackWrongFalsely : Prop := historyBackRow.holds Try.pinned (OpenSpec.ofChange historyBackWrong)

/-- 'abacistlaw22.HistoryClears': WHATEVER THE INPUT: true; the input reads as it did. -/
def historyClearsSpec : ChangeSpec := { name := "historyClears", fn := fun _ => fun
  | [d1, d2, d3, d4] => { results := [.lit (.bool true)], args := [d1, d2, d3, d4] }
  | _ => none }
def historyClearsRow : OpenClaim := { program := "ytilblnolfcbdlaa", sum := "e345003ceb3517f279469d376d22667eb5d24c7aed32a0bd146d20dee4fadf76", func := "abacist/abacistlaw22.HistoryClears", spec := "historyClears", apart := false }
def HistoryClearsSaid : Prop := historyClearsRow.holds Try.pinned (OpenSpec.ofChange historyClearsSpec)

/-- ITS FALSE NEIGHBOUR: 'it returns false'. Refute it at one input. -/
def historyClearsWrong : ChangeSpec := { name := "historyClears", fn := fun _ => fun
  | [d1, d2, d3, d4] => { results := [.lit (.bool false)], args := [d1, d2, d3, d4] }
  | _ => none }
def HistoryClearsWrongFalsely : Prop := historyClearsRow.holds Try.pinned (OpenSpec.ofChange historyClearsWrong)

/-- 'abacistlaw22.HistoryPlays': WHATEVER THE INPUT: true; the input reads as it did. -/
def historyPlaysSpec : ChangeSpec := { name := "historyPlays", fn := fun _ => fun
  | [d1, d2] => { results := [.lit (.bool true)], args := [d1, d2] }
  | _ => none }
def historyPlaysRow : OpenClaim := { program := "ytilblnolfcbdlaa", sum := "e345003ceb3517f279469d376d22667eb5d24c7aed32a0bd146d20dee4fadf76", func := "abacist/abacistlaw22.HistoryPlays", spec := "historyPlays", apart := false }
def HistoryPlaysSaid : Prop := historyPlaysRow.holds Try.pinned (OpenSpec.ofChange historyPlaysSpec)

/-- ITS FALSE NEIGHBOUR: 'it returns false'. Refute it at one input. -/
def historyPlaysWrong : ChangeSpec := { name := "historyPlays", fn := fun _ => fun
  | [d1, d2] => { results := [.lit (.bool false)], args := [d1, d2] }
  | _ => none }
def HistoryPlaysWrongFalsely : Prop := historyPlaysRow.holds Try.pinned (OpenSpec.ofChange historyPlaysWrong)

/- THE SECOND FORM. 'bulk': how many values and letters a reading holds, each counted each time it is reached (what is shared counts as often as it is met; a slice's spare places count too). A statement '..UptoSaid' is the law's where the arguments, and the package variables that the reading takes, are together of bulk at most 1048576: NARROWER than '..Said'. Prove '..Said' where nothing that the law and all that it calls make is longer than what came in: it says more and counts as full. Else prove '..UptoSaid'. A law counts once. -/
mutual
def uptoBulk {H : Type} : DataW H → Nat
  | .lit (.string bytes) => bytes.length + 1
  | .lit _ => 1
  | .nil => 1
  | .ptr d => uptoBulk d + 1
  | .slice elems spare => uptoBulkAll elems + uptoBulkAll spare + 1
  | .agg parts => uptoBulkAll parts + 1
  | .iface _ d => uptoBulk d + 1
  | .map entries => uptoBulkEntries entries + 1
  | .held _ => 1
def uptoBulkAll {H : Type} : List (DataW H) → Nat
  | [] => 0
  | d :: r => uptoBulk d + uptoBulkAll r
def uptoBulkEntries {H : Type} : List (Lit × DataW H) → Nat
  | [] => 0
  | x :: r => uptoBulkEntry x + uptoBulkEntries r
def uptoBulkEntry {H : Type} : Lit × DataW H → Nat
  | (.string bytes, d) => bytes.length + uptoBulk d + 1
  | (_, d) => uptoBulk d + 1
 end
def uptoSmall : (H : Type) → List (DataW H) → Bool := fun _ ds => decide (uptoBulkAll ds ≤ 1048576)
def OpenSpec.upto (s : _root_.Go.ChangeSpec) : _root_.Go.OpenSpec := { _root_.Go.OpenSpec.ofChange s with cond := some uptoSmall }

/-- 'abacistlaw01.UtfRow', WHERE WHAT IT READS IS OF BULK AT MOST 1048576: true; the input reads as it did. -/
def utfRowUptoRow : OpenClaim := { program := "ytilblnolfcbdlaa", sum := "e345003ceb3517f279469d376d22667eb5d24c7aed32a0bd146d20dee4fadf76", func := "abacist/abacistlaw01.UtfRow", spec := "utfRow", apart := false, narrowed := true }
def UtfRowUptoSaid : Prop := utfRowUptoRow.holds Try.pinned (OpenSpec.upto utfRowSpec)

/-- 'abacistlaw22.HistoryNews', WHERE WHAT IT READS IS OF BULK AT MOST 1048576: true; the input reads as it did. -/
def historyNewsUptoRow : OpenClaim := { program := "ytilblnolfcbdlaa", sum := "e345003ceb3517f279469d376d22667eb5d24c7aed32a0bd146d20dee4fadf76", func := "abacist/abacistlaw22.HistoryNews", spec := "historyNews", apart := false, narrowed := true }
def HistoryNewsUptoSaid : Prop := historyNewsUptoRow.holds Try.pinned (OpenSpec.upto historyNewsSpec)

/-- 'abacistlaw22.HistoryRuns', WHERE WHAT IT READS IS OF BULK AT MOST 1048576: true; the input reads as it did. -/
def historyRunsUptoRow : OpenClaim := { program := "ytilblnolfcbdlaa", sum := "e345003ceb3517f279469d376d22667eb5d24c7aed32a0bd146d20dee4fadf76", func := "abacist/abacistlaw22.HistoryRuns", spec := "historyRuns", apart := false, narrowed := true }
def HistoryRunsUptoSaid : Prop := historyRunsUptoRow.holds Try.pinned (OpenSpec.upto historyRunsSpec)

/-- 'abacistlaw22.HistoryOld', WHERE WHAT IT READS IS OF BULK AT MOST 1048576: true; the input reads as it did. -/
def historyOldUptoRow : OpenClaim := { program := "ytilblnolfcbdlaa", sum := "e345003ceb3517f279469d376d22667eb5d24c7aed32a0bd146d20dee4fadf76", func := "abacist/abacistlaw22.HistoryOld", spec := "historyOld", apart := false, narrowed := true }
def HistoryOldUptoSaid : Prop := historyOldUptoRow.holds Try.pinned (OpenSpec.upto historyOldSpec)

/-- 'abacistlaw22.HistoryBack', WHERE WHAT IT READS IS OF BULK AT MOST 1048576: true; the input reads as it did. -/
def historyBackUptoRow : OpenClaim := { program := "ytilblnolfcbdlaa", sum := "e345003ceb3517f279469d376d22667eb5d24c7aed32a0bd146d20dee4fadf76", func := "abacist/abacistlaw22.HistoryBack", spec := "historyBack", apart := false, narrowed := true }
def HistoryBackUptoSaid : Prop := historyBackUptoRow.holds Try.pinned (OpenSpec.upto historyBackSpec)

/-- 'abacistlaw22.HistoryClears', WHERE WHAT IT READS IS OF BULK AT MOST 1048576: true; the input reads as it did. -/
def historyClearsUptoRow : OpenClaim := { program := "ytilblnolfcbdlaa", sum := "e345003ceb3517f279469d376d22667eb5d24c7aed32a0bd146d20dee4fadf76", func := "abacist/abacistlaw22.HistoryClears", spec := "historyClears", apart := false, narrowed := true }
def HistoryClearsUptoSaid : Prop := historyClearsUptoRow.holds Try.pinned (OpenSpec.upto historyClearsSpec)

/-- 'abacistlaw22.HistoryPlays', WHERE WHAT IT READS IS OF BULK AT MOST 1048576: true; the input reads as it did. -/
def historyPlaysUptoRow : OpenClaim := { program := "ytilblnolfcbdlaa", sum := "e345003ceb3517f279469d376d22667eb5d24c7aed32a0bd146d20dee4fadf76", func := "abacist/abacistlaw22.HistoryPlays", spec := "historyPlays", apart := false, narrowed := true }
def HistoryPlaysUptoSaid : Prop := historyPlaysUptoRow.holds Try.pinned (OpenSpec.upto historyPlaysSpec)

end Rows
end Go.Proofs.Ytilblnolfcbdlaa
