/-
  The reference's Joined is the program's: and words for lists that came in.
-/
import Derived.Test.YtaocnnebfnlgiaaDoorClu1
import Derived.Test.YtaocnnebfnlgiaaDoorJoinR
import Derived.Lib.QuietBelow
namespace Go.Proofs.YtaocnnebfnlgiaaDoor
open Go.RowKit

theorem joined_eq (l : List Int) (c : Int) : joinR (clsR l l.length) (ofI c) = joinedB l c := by
  unfold joinedB
  have h := rIs_join (clsR l l.length) (ofI c)
  rw [← h]
  unfold clsR
  rw [List.reverse_reverse, List.take_length]
theorem rjoined_B (l : List Int) (v : Value) (c : Int) (w : World) (hv : IsInts w v l) (hl : l.length ≤ 1000) :
    Calls Tryd.prog 22 #[v, .int .i64 c] w fun e w' => e = .returned (.bool (joinedB l c)) ∧ Below w.heap.size w w' := by
  have h := rjoined_any l v c w hv hl
  rw [joined_eq] at h
  exact h
theorem mem_bd3 {l : List Int} (hb : ∀ x ∈ l, -9223372036854775808 ≤ x ∧ x ≤ 9223372036854775807) : ∀ j, j < l.length → -9223372036854775808 ≤ l.getD j 0 ∧ l.getD j 0 ≤ 9223372036854775807 := by
  intro j hj
  have e : l.getD j 0 = l[j] := by simp [hj]
  rw [e]
  exact hb _ (List.getElem_mem hj)
theorem take_bd3 {l : List Int} (hb : ∀ j, j < l.length → -9223372036854775808 ≤ l.getD j 0 ∧ l.getD j 0 ≤ 9223372036854775807) (p : Nat) (hp : p ≤ l.length) : ∀ j, j < (l.take p).length → -9223372036854775808 ≤ (l.take p).getD j 0 ∧ (l.take p).getD j 0 ≤ 9223372036854775807 := by
  intro j hj
  have hl : (l.take p).length = p := by simp; omega
  have e : (l.take p).getD j 0 = l.getD j 0 := by
    rw [List.getD_eq_getElem?_getD, List.getD_eq_getElem?_getD, List.getElem?_take, if_pos (by omega)]
  rw [e]
  exact hb j (by omega)
/-- A list that came in: where it lies, or that it is empty. -/
theorem ints_cases {w : World} {v : Value} {l : List Int} (h : IsInts w v l) : ∃ A c, v = .slice A l.length c ∧ l.length ≤ c ∧ c ≤ 9223372036854775807 ∧
    ((∃ b off, A = some ⟨b, off, none⟩ ∧ Hid (∀ j, j < l.length → w.cell? ⟨b, off + j, none⟩ = some (.int .i64 (l.getD j 0)))) ∨ (A = A ∧ l.length ≤ 0)) := by
  obtain ⟨A, c, rfl, h1, h2, h3⟩ := h
  refine ⟨A, c, rfl, h1, h2, ?_⟩
  by_cases h0 : 0 < l.length
  · obtain ⟨b, off, rfl, hc⟩ := h3 h0
    exact .inl ⟨b, off, rfl, hc⟩
  · exact .inr ⟨rfl, by omega⟩

end Go.Proofs.YtaocnnebfnlgiaaDoor
