/-
  DERIVED. GIVEN WITH THE SEED: THE CARDS: each row of YtoeiaflkdcbkdaaGreatDoorRows.lean that lists a variable, with what it lists TIED to the program's text (the seventh form; the later family's looks); each row that meets fmt, with fmt's text TOLD by the authors' own Lean function (tested against real Go, not proved from fmt's source: count such statements apart). THE CARD IS WHAT COUNTS. Prove the row's statement (the work); the ties are given (YtoeiaflkdcbkdaaGreatDoorTie.lean); close each card by the builder's one call (the guide's Derived/Test/ToyasCard.lean, 'card_holds'). Laid BY PROGRAM, IN A SANDBOX (cutbox-door.mjs). By AI agents, Wed Nov 11 2026. No macro, syntax, notation, axiom, sorry.
-/
import Derived.Test.YtoeiaflkdcbkdaaGreatDoorRows
import GoSem.ClaimSeven
namespace Go.Proofs.YtoeiaflkdcbkdaaGreatDoor
namespace Rows

/-- THE TIED CARD OF 'abacisttop.TopShell'. -/
def topShellCard : Claim7 := { stood := { row := topShellRow, standIns := [], harness := (true, "f5bc3aaeeb608a3b4bd874d66a8f4d2cb788fe4d40baa13fca6db8129891f93a"), looks := true }, kinds := [], alts := [], laidByText := true, laidKinds := [.pinned, .data, .handle, .data, .data, .data, .sentinel, .sentinel], laidTests := true, laidLooks := .later }
def TopShellCardSaid : Prop := Claim7.holds Tryz.pinned (.plain (OpenSpec.ofChange topShellSpec)) topShellCard

/-- THE SECOND FORM's CARD OF 'abacisttop.TopShell'. -/
def topShellUptoCard : Claim7 := { stood := { row := topShellUptoRow, standIns := [], harness := (true, "f5bc3aaeeb608a3b4bd874d66a8f4d2cb788fe4d40baa13fca6db8129891f93a"), looks := true }, kinds := [], alts := [], laidByText := true, laidKinds := [.pinned, .data, .handle, .data, .data, .data, .sentinel, .sentinel], laidTests := true, laidLooks := .later }
def TopShellUptoCardSaid : Prop := Claim7.holds Tryz.pinned (.plain (OpenSpec.upto topShellSpec)) topShellUptoCard
end Rows
end Go.Proofs.YtoeiaflkdcbkdaaGreatDoor
