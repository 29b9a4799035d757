/-
  The two tables of the library stay where they are.
-/
import Derived.Test.YtaocnnebfnlgiaaDoorMem
import Derived.Shelf.Unicode.DecodeSlow
import Derived.Below
namespace Go.Proofs.YtaocnnebfnlgiaaDoor
open Go.RowKit

theorem tabs_below {w w' : World} {B : Nat} (h : Lib.Utf8Tabs 0 1 w) (hb : Below B w w') (hB : 2 ≤ B) : Lib.Utf8Tabs 0 1 w' :=
  ⟨fun c hc => by rw [hb.cell (p := ⟨0, c, none⟩) (by show 0 < B; omega)]; exact h.1 c hc,
   fun i hi => ⟨by rw [hb.cell (p := ⟨1, 2 * i, none⟩) (by show 1 < B; omega)]; exact (h.2 i hi).1, by rw [hb.cell (p := ⟨1, 2 * i + 1, none⟩) (by show 1 < B; omega)]; exact (h.2 i hi).2⟩⟩
theorem tabs_size {w : World} (h : Lib.Utf8Tabs 0 1 w) : 2 ≤ w.heap.size := by
  have := World.block_lt_of_cell? w _ (h.2 0 (by omega)).1
  simp only at this
  omega

end Go.Proofs.YtaocnnebfnlgiaaDoor
