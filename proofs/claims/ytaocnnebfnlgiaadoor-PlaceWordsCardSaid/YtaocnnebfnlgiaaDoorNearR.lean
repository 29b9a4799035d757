/-
  Contracts: the reference's Floor, Ceil, Index.
-/
import Derived.Test.YtaocnnebfnlgiaaDoorMap
namespace Go.Proofs.YtaocnnebfnlgiaaDoor
open Go.RowKit

theorem IsInts.cells_ {w : World} {v : Value} {l : List Int} (h : IsInts w v l) (hp : 0 < l.length) : ∃ b off c, v = .slice (some ⟨b, off, none⟩) l.length c ∧ l.length ≤ c ∧ c ≤ 9223372036854775807 ∧ Hid (∀ j, j < l.length → w.cell? ⟨b, off + j, none⟩ = some (.int .i64 (l.getD j 0))) := by
  obtain ⟨A, c, rfl, h0, h1, h2⟩ := h
  obtain ⟨b, off, rfl, hc⟩ := h2 hp
  exact ⟨b, off, c, rfl, h0, h1, hc⟩




end Go.Proofs.YtaocnnebfnlgiaaDoor
