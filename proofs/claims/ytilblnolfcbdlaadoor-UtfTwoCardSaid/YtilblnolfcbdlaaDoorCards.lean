/-
  DERIVED. GIVEN WITH THE SEED: THE CARDS: each row of YtilblnolfcbdlaaDoorRows.lean that lists a variable, with what it lists TIED to the program's text (the seventh form; the later family's looks); each row that meets fmt, with fmt's text TOLD by the authors' own Lean function (tested against real Go, not proved from fmt's source: count such statements apart). THE CARD IS WHAT COUNTS. Prove the row's statement (the work); the ties are given (YtilblnolfcbdlaaDoorTie.lean); close each card by the builder's one call (the guide's Derived/Test/ToyasCard.lean, 'card_holds'). Laid BY PROGRAM, IN A SANDBOX (cutbox-door.mjs). By AI agents, Wed Nov 11 2026. No macro, syntax, notation, axiom, sorry.
-/
import Derived.Test.YtilblnolfcbdlaaDoorRows
import GoSem.ClaimSeven
namespace Go.Proofs.YtilblnolfcbdlaaDoor
namespace Rows

/-- THE TIED CARD OF 'abacistlaw01.UtfAll'. -/
def utfAllCard : Claim7 := { stood := { row := utfAllRow, standIns := [], harness := (true, "02c8da37c15280087492fe26173ae561a55ad7d4f193d55b11137ff72eb9bc73"), looks := false }, kinds := [], alts := [], laidByText := true, laidKinds := [.data, .pinned], laidTests := true, laidLooks := .later }
def UtfAllCardSaid : Prop := Claim7.holds Tryd.pinned (.plain (OpenSpec.ofChange utfAllSpec)) utfAllCard

/-- THE TIED CARD OF 'abacistlaw01.UtfJoins'. -/
def utfJoinsCard : Claim7 := { stood := { row := utfJoinsRow, standIns := [], harness := (true, "02c8da37c15280087492fe26173ae561a55ad7d4f193d55b11137ff72eb9bc73"), looks := false }, kinds := [], alts := [], laidByText := true, laidKinds := [.data, .pinned], laidTests := true, laidLooks := .later }
def UtfJoinsCardSaid : Prop := Claim7.holds Tryd.pinned (.plain (OpenSpec.ofChange utfJoinsSpec)) utfJoinsCard

/-- THE TIED CARD OF 'abacistlaw01.UtfEncodes'. -/
def utfEncodesCard : Claim7 := { stood := { row := utfEncodesRow, standIns := [], harness := (true, "02c8da37c15280087492fe26173ae561a55ad7d4f193d55b11137ff72eb9bc73"), looks := false }, kinds := [], alts := [], laidByText := true, laidKinds := [.data, .pinned], laidTests := true, laidLooks := .later }
def UtfEncodesCardSaid : Prop := Claim7.holds Tryd.pinned (.plain (OpenSpec.ofChange utfEncodesSpec)) utfEncodesCard

/-- THE TIED CARD OF 'abacistlaw01.UtfFirsts'. -/
def utfFirstsCard : Claim7 := { stood := { row := utfFirstsRow, standIns := [], harness := (true, "02c8da37c15280087492fe26173ae561a55ad7d4f193d55b11137ff72eb9bc73"), looks := false }, kinds := [], alts := [], laidByText := true, laidKinds := [.data, .pinned], laidTests := true, laidLooks := .later }
def UtfFirstsCardSaid : Prop := Claim7.holds Tryd.pinned (.plain (OpenSpec.ofChange utfFirstsSpec)) utfFirstsCard

/-- THE TIED CARD OF 'abacistlaw01.UtfTwo'. -/
def utfTwoCard : Claim7 := { stood := { row := utfTwoRow, standIns := [], harness := (true, "02c8da37c15280087492fe26173ae561a55ad7d4f193d55b11137ff72eb9bc73"), looks := false }, kinds := [], alts := [], laidByText := true, laidKinds := [.data, .pinned], laidTests := true, laidLooks := .later }
def UtfTwoCardSaid : Prop := Claim7.holds Tryd.pinned (.plain (OpenSpec.ofChange utfTwoSpec)) utfTwoCard

/-- THE SECOND FORM's CARD OF 'abacistlaw01.UtfAll'. -/
def utfAllUptoCard : Claim7 := { stood := { row := utfAllUptoRow, standIns := [], harness := (true, "02c8da37c15280087492fe26173ae561a55ad7d4f193d55b11137ff72eb9bc73"), looks := false }, kinds := [], alts := [], laidByText := true, laidKinds := [.data, .pinned], laidTests := true, laidLooks := .later }
def UtfAllUptoCardSaid : Prop := Claim7.holds Tryd.pinned (.plain (OpenSpec.upto utfAllSpec)) utfAllUptoCard

/-- THE SECOND FORM's CARD OF 'abacistlaw01.UtfJoins'. -/
def utfJoinsUptoCard : Claim7 := { stood := { row := utfJoinsUptoRow, standIns := [], harness := (true, "02c8da37c15280087492fe26173ae561a55ad7d4f193d55b11137ff72eb9bc73"), looks := false }, kinds := [], alts := [], laidByText := true, laidKinds := [.data, .pinned], laidTests := true, laidLooks := .later }
def UtfJoinsUptoCardSaid : Prop := Claim7.holds Tryd.pinned (.plain (OpenSpec.upto utfJoinsSpec)) utfJoinsUptoCard

/-- THE SECOND FORM's CARD OF 'abacistlaw01.UtfEncodes'. -/
def utfEncodesUptoCard : Claim7 := { stood := { row := utfEncodesUptoRow, standIns := [], harness := (true, "02c8da37c15280087492fe26173ae561a55ad7d4f193d55b11137ff72eb9bc73"), looks := false }, kinds := [], alts := [], laidByText := true, laidKinds := [.data, .pinned], laidTests := true, laidLooks := .later }
def UtfEncodesUptoCardSaid : Prop := Claim7.holds Tryd.pinned (.plain (OpenSpec.upto utfEncodesSpec)) utfEncodesUptoCard

/-- THE SECOND FORM's CARD OF 'abacistlaw01.UtfFirsts'. -/
def utfFirstsUptoCard : Claim7 := { stood := { row := utfFirstsUptoRow, standIns := [], harness := (true, "02c8da37c15280087492fe26173ae561a55ad7d4f193d55b11137ff72eb9bc73"), looks := false }, kinds := [], alts := [], laidByText := true, laidKinds := [.data, .pinned], laidTests := true, laidLooks := .later }
def UtfFirstsUptoCardSaid : Prop := Claim7.holds Tryd.pinned (.plain (OpenSpec.upto utfFirstsSpec)) utfFirstsUptoCard

/-- THE SECOND FORM's CARD OF 'abacistlaw01.UtfTwo'. -/
def utfTwoUptoCard : Claim7 := { stood := { row := utfTwoUptoRow, standIns := [], harness := (true, "02c8da37c15280087492fe26173ae561a55ad7d4f193d55b11137ff72eb9bc73"), looks := false }, kinds := [], alts := [], laidByText := true, laidKinds := [.data, .pinned], laidTests := true, laidLooks := .later }
def UtfTwoUptoCardSaid : Prop := Claim7.holds Tryd.pinned (.plain (OpenSpec.upto utfTwoSpec)) utfTwoUptoCard
end Rows
end Go.Proofs.YtilblnolfcbdlaaDoor
