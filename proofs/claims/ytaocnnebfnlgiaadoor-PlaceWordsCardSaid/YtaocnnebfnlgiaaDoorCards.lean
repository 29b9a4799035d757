/-
  DERIVED. GIVEN WITH THE SEED: THE CARDS: each row of YtaocnnebfnlgiaaDoorRows.lean that lists a variable, with what it lists TIED to the program's text (the seventh form; the later family's looks); each row that meets fmt, with fmt's text TOLD by the authors' own Lean function (tested against real Go, not proved from fmt's source: count such statements apart). THE CARD IS WHAT COUNTS. Prove the row's statement (the work); the ties are given (YtaocnnebfnlgiaaDoorTie.lean); close each card by the builder's one call (the guide's Derived/Test/ToyasCard.lean, 'card_holds'). Laid BY PROGRAM, IN A SANDBOX (cutbox-door.mjs). By AI agents, Wed Nov 11 2026. No macro, syntax, notation, axiom, sorry.
-/
import Derived.Test.YtaocnnebfnlgiaaDoorRows
import GoSem.ClaimSeven
namespace Go.Proofs.YtaocnnebfnlgiaaDoor
namespace Rows

/-- THE TIED CARD OF 'abacistlaw04.PlaceWords'. -/
def placeWordsCard : Claim7 := { stood := { row := placeWordsRow, standIns := [], harness := (true, "9f2dcd5cbf4eedb802400b420fb05a6cfd1c54db4d4f598ca1427d3a34f8f44d"), looks := false }, kinds := [], alts := [], laidByText := true, laidKinds := [.data, .pinned], laidTests := true, laidLooks := .later }
def PlaceWordsCardSaid : Prop := Claim7.holds Tryd.pinned (.plain (OpenSpec.ofChange placeWordsSpec)) placeWordsCard

/-- THE TIED CARD OF 'abacistlaw04.PlaceWalks'. -/
def placeWalksCard : Claim7 := { stood := { row := placeWalksRow, standIns := [], harness := (true, "9f2dcd5cbf4eedb802400b420fb05a6cfd1c54db4d4f598ca1427d3a34f8f44d"), looks := false }, kinds := [], alts := [], laidByText := true, laidKinds := [.data, .pinned], laidTests := true, laidLooks := .later }
def PlaceWalksCardSaid : Prop := Claim7.holds Tryd.pinned (.plain (OpenSpec.ofChange placeWalksSpec)) placeWalksCard

/-- THE SECOND FORM's CARD OF 'abacistlaw04.PlaceWords'. -/
def placeWordsUptoCard : Claim7 := { stood := { row := placeWordsUptoRow, standIns := [], harness := (true, "9f2dcd5cbf4eedb802400b420fb05a6cfd1c54db4d4f598ca1427d3a34f8f44d"), looks := false }, kinds := [], alts := [], laidByText := true, laidKinds := [.data, .pinned], laidTests := true, laidLooks := .later }
def PlaceWordsUptoCardSaid : Prop := Claim7.holds Tryd.pinned (.plain (OpenSpec.upto placeWordsSpec)) placeWordsUptoCard

/-- THE SECOND FORM's CARD OF 'abacistlaw04.PlaceWalks'. -/
def placeWalksUptoCard : Claim7 := { stood := { row := placeWalksUptoRow, standIns := [], harness := (true, "9f2dcd5cbf4eedb802400b420fb05a6cfd1c54db4d4f598ca1427d3a34f8f44d"), looks := false }, kinds := [], alts := [], laidByText := true, laidKinds := [.data, .pinned], laidTests := true, laidLooks := .later }
def PlaceWalksUptoCardSaid : Prop := Claim7.holds Tryd.pinned (.plain (OpenSpec.upto placeWalksSpec)) placeWalksUptoCard
end Rows
end Go.Proofs.YtaocnnebfnlgiaaDoor
