/-
  DERIVED. GIVEN WITH THE SEED: THE CARDS: each row of YteiomfgehlojeaaGreatDoorRows.lean that lists a variable, with what it lists TIED to the program's text (the seventh form; the later family's looks); each row that meets fmt, with fmt's text TOLD by the authors' own Lean function (tested against real Go, not proved from fmt's source: count such statements apart). THE CARD IS WHAT COUNTS. Prove the row's statement (the work); the ties are given (YteiomfgehlojeaaGreatDoorTie.lean); close each card by the builder's one call (the guide's Derived/Test/ToyasCard.lean, 'card_holds'). Laid BY PROGRAM, IN A SANDBOX (cutbox-door.mjs). By AI agents, Wed Nov 11 2026. No macro, syntax, notation, axiom, sorry.
-/
import Derived.Test.YteiomfgehlojeaaGreatDoorRows
import GoSem.ClaimSeven
namespace Go.Proofs.YteiomfgehlojeaaGreatDoor
namespace Rows

/-- THE TIED CARD OF 'abacisttop.TopSteps'. -/
def topStepsCard : Claim7 := { stood := { row := topStepsRow, standIns := [], harness := (true, "603c32705264a105c30a24b6ad906616d55472cf9c9c59a6bd7efa99276324b1"), looks := true }, kinds := [], alts := [], laidByText := true, laidKinds := [.pinned, .data, .handle, .data, .data, .data, .sentinel, .sentinel], laidTests := true, laidLooks := .later }
def TopStepsCardSaid : Prop := Claim7.holds Tryz.pinned (.plain (OpenSpec.ofChange topStepsSpec)) topStepsCard

/-- THE SECOND FORM's CARD OF 'abacisttop.TopSteps'. -/
def topStepsUptoCard : Claim7 := { stood := { row := topStepsUptoRow, standIns := [], harness := (true, "603c32705264a105c30a24b6ad906616d55472cf9c9c59a6bd7efa99276324b1"), looks := true }, kinds := [], alts := [], laidByText := true, laidKinds := [.pinned, .data, .handle, .data, .data, .data, .sentinel, .sentinel], laidTests := true, laidLooks := .later }
def TopStepsUptoCardSaid : Prop := Claim7.holds Tryz.pinned (.plain (OpenSpec.upto topStepsSpec)) topStepsUptoCard
end Rows
end Go.Proofs.YteiomfgehlojeaaGreatDoor
