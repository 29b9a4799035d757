/-
  Words for lists of made characters.
-/
import Derived.Test.YtaocnnebfnlgiaaKind
import Derived.Test.YtaocnnebfnlgiaaMem
namespace Go.Proofs.Ytaocnnebfnlgiaa
open Go.RowKit

theorem kinds_snoc (l : List Int) (k : Nat) (hk : k < l.length) : (l.take (k + 1)).map kindI = (l.take k).map kindI ++ [kindI (l.getD k 0)] := by
  rw [List.take_succ_eq_append_getElem hk, List.map_append]
  simp [hk]
theorem kinds_may (l : List Int) : ∀ c ∈ l.map kindI, mayB c = true := by
  intro c hc
  obtain ⟨n, _, rfl⟩ := List.mem_map.1 hc
  exact kindI_may n
theorem kinds_bd (l : List Int) : ∀ j, j < (l.map kindI).length → -9223372036854775808 ≤ (l.map kindI).getD j 0 ∧ (l.map kindI).getD j 0 ≤ 9223372036854775807 := by
  intro j hj
  have e : (l.map kindI).getD j 0 = (l.map kindI)[j] := by simp at hj; simp [hj]
  rw [e]
  have hm := List.getElem_mem hj
  obtain ⟨n, _, hn⟩ := List.mem_map.1 hm
  rw [← hn]
  have := kindI_bd n
  omega

end Go.Proofs.Ytaocnnebfnlgiaa
