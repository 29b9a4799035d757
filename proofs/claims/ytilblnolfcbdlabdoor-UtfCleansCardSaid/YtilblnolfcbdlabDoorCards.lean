/-
  DERIVED. GIVEN WITH THE SEED: THE CARDS: each row of YtilblnolfcbdlabDoorRows.lean that lists a variable, with what it lists TIED to the program's text (the seventh form; the later family's looks); each row that meets fmt, with fmt's text TOLD by the authors' own Lean function (tested against real Go, not proved from fmt's source: count such statements apart). THE CARD IS WHAT COUNTS. Prove the row's statement (the work); the ties are given (YtilblnolfcbdlabDoorTie.lean); close each card by the builder's one call (the guide's Derived/Test/ToyasCard.lean, 'card_holds'). Laid BY PROGRAM, IN A SANDBOX (cutbox-door.mjs). By AI agents, Wed Nov 11 2026. No macro, syntax, notation, axiom, sorry.
-/
import Derived.Test.YtilblnolfcbdlabDoorRows
import GoSem.ClaimSeven
namespace Go.Proofs.YtilblnolfcbdlabDoor
namespace Rows

/-- THE TIED CARD OF 'abacistlaw01.UtfCleans'. -/
def utfCleansCard : Claim7 := { stood := { row := utfCleansRow, standIns := [], harness := (true, "db9fbadee926f12dd5fa616dbe2cc3071516ad38c2b9188781dab61b6de88a9d"), looks := false }, kinds := [], alts := [], laidByText := true, laidKinds := [.data, .pinned], laidTests := true, laidLooks := .later }
def UtfCleansCardSaid : Prop := Claim7.holds Tryd.pinned (.plain (OpenSpec.ofChange utfCleansSpec)) utfCleansCard

/-- THE SECOND FORM's CARD OF 'abacistlaw01.UtfCleans'. -/
def utfCleansUptoCard : Claim7 := { stood := { row := utfCleansUptoRow, standIns := [], harness := (true, "db9fbadee926f12dd5fa616dbe2cc3071516ad38c2b9188781dab61b6de88a9d"), looks := false }, kinds := [], alts := [], laidByText := true, laidKinds := [.data, .pinned], laidTests := true, laidLooks := .later }
def UtfCleansUptoCardSaid : Prop := Claim7.holds Tryd.pinned (.plain (OpenSpec.upto utfCleansSpec)) utfCleansUptoCard
end Rows
end Go.Proofs.YtilblnolfcbdlabDoor
