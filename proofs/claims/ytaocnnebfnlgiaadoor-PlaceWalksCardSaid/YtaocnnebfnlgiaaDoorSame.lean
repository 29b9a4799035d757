/-
  The contract of Same: are two slices of ints the same list?
-/
import Derived.Test.YtaocnnebfnlgiaaDoorBase
namespace Go.Proofs.YtaocnnebfnlgiaaDoor
open Go.RowKit

theorem same_step (a b : List Int) (hl : a.length = b.length) (k : Nat) (_ : k < a.length) (hne : a.getD k 0 ≠ b.getD k 0) : decide (a = b) = false := by
  apply decide_eq_false
  rintro rfl
  exact hne rfl

theorem same_end (a b : List Int) (hl : a.length = b.length) (h : ∀ j, j < a.length → a.getD j 0 = b.getD j 0) : decide (a = b) = true := by
  apply decide_eq_true
  apply List.ext_getElem hl
  intro i h1 h2
  have := h i h1
  simpa [List.getD_eq_getElem?_getD, h1, h2] using this


end Go.Proofs.YtaocnnebfnlgiaaDoor
