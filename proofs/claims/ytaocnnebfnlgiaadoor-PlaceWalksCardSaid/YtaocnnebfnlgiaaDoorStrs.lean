/-
  Words for lists of texts: owned rows of strings.
-/
import Derived.Test.YtaocnnebfnlgiaaDoorBase
import Derived.Test.YtaocnnebfnlgiaaDoorOwn
namespace Go.Proofs.YtaocnnebfnlgiaaDoor
open Go.RowKit

/-- texts as cells -/
def strs (l : List ByteArray) : List Value := l.map Value.string
theorem strs_length (l : List ByteArray) : (strs l).length = l.length := by simp [strs]
theorem strs_append (a b : List ByteArray) : strs (a ++ b) = strs a ++ strs b := by simp [strs]
theorem strs_one (l : List ByteArray) : ∀ u ∈ strs l, u.oneCell' = true := by
  intro u hu
  obtain ⟨s, _, rfl⟩ := List.mem_map.1 hu
  rfl
theorem strs_get (l : List ByteArray) (j : Nat) (h : j < l.length) : (strs l)[j]? = some (.string (l.getD j ⟨#[]⟩)) := by
  simp [strs, h]

theorem info_str5 : (Tryd.prog.info? 9).map (fun i => (i.zero, i.size, i.bytes)) = some (some (.string ⟨#[]⟩), 1, 16) := by kernel_rfl

/-- A slice value that reads as a list of texts. -/
def IsStrs (w : World) (v : Value) (l : List ByteArray) : Prop :=
  ∃ A c, v = .slice A l.length c ∧ l.length ≤ c ∧ c ≤ 9223372036854775807 ∧ (0 < l.length → ∃ b off, A = some ⟨b, off, none⟩ ∧ ∀ j, j < l.length → w.cell? ⟨b, off + j, none⟩ = some (.string (l.getD j ⟨#[]⟩)))
theorem IsStrs.keep {w w' : World} {v : Value} {l : List ByteArray} (h : IsStrs w v l) (hk : ∀ b o, b < w.heap.size → w'.cell? ⟨b, o, none⟩ = w.cell? ⟨b, o, none⟩) : IsStrs w' v l := by
  obtain ⟨A, c, rfl, h0, h1, h2⟩ := h
  refine ⟨A, c, rfl, h0, h1, fun hp => ?_⟩
  obtain ⟨b, off, rfl, hc⟩ := h2 hp
  refine ⟨b, off, rfl, fun j hj => ?_⟩
  have hlt := World.block_lt_of_cell? w _ (hc j hj)
  rw [hk b _ hlt]
  exact hc j hj
theorem IsStrs.below {w w' : World} {v : Value} {l : List ByteArray} {B : Nat} (h : IsStrs w v l) (hb : Below B w w') (hB : w.heap.size ≤ B) : IsStrs w' v l :=
  h.keep fun b o hlt => hb.cell (p := ⟨b, o, none⟩) (by show b < B; omega)
theorem IsStrs.of_own {w : World} {B : Nat} {e : TypeId} {v : Value} {l : List ByteArray} (h : w.ownsRow B e 1 v l.length (strs l)) : IsStrs w v l := by
  rcases h.2 with ⟨rfl, h0⟩ | ⟨g, cap, cur, rfl, _, _, hnc, hcm, _⟩
  · have : l = [] := List.eq_nil_of_length_eq_zero h0
    subst this
    exact ⟨_, _, rfl, by simp, by omega, fun h => absurd h (by simp)⟩
  · refine ⟨_, cap, rfl, hnc, hcm, fun _ => ⟨g, 0, rfl, fun j hj => ?_⟩⟩
    have := h.cellAt j (by omega)
    rw [Nat.zero_add, this, strs_get l j hj]
/-- Where it lies, or that it is empty. -/
theorem strs_cases {w : World} {v : Value} {l : List ByteArray} (h : IsStrs w v l) : ∃ A c, v = .slice A l.length c ∧ l.length ≤ c ∧ c ≤ 9223372036854775807 ∧
    ((∃ b off, A = some ⟨b, off, none⟩ ∧ Hid (∀ j, j < l.length → w.cell? ⟨b, off + j, none⟩ = some (.string (l.getD j ⟨#[]⟩)))) ∨ (A = A ∧ l.length ≤ 0)) := by
  obtain ⟨A, c, rfl, h1, h2, h3⟩ := h
  refine ⟨A, c, rfl, h1, h2, ?_⟩
  by_cases h0 : 0 < l.length
  · obtain ⟨b, off, rfl, hc⟩ := h3 h0
    exact .inl ⟨b, off, rfl, hc⟩
  · exact .inr ⟨rfl, by omega⟩

end Go.Proofs.YtaocnnebfnlgiaaDoor
