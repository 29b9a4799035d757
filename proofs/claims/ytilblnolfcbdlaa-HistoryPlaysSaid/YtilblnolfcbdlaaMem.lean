/-
  Words for memory: a slice value that reads as a list of ints; owned rows; what is kept from world to world.
-/
import Derived.WalkKit
import Derived.WalkSpells
import Derived.WalkLawsBesides
import Derived.Lib.Hide
import Derived.Lib.OthersKept
import Derived.Laws.OwnMore
namespace Go.Proofs.Ytilblnolfcbdlaa
open Go.RowKit

theorem ret_int {k : IntKind} {a b : Int} (h : a = b) : Ending.returned (.int k a) = .returned (.int k b) := by rw [h]
theorem ret_bool {a b : Bool} (h : a = b) : Ending.returned (.bool a) = .returned (.bool b) := by rw [h]
theorem ret_str {a b : ByteArray} (h : a = b) : Ending.returned (.string a) = .returned (.string b) := by rw [h]

/-- Kept aside from the walk. -/
def Aside (p : Prop) : Prop := p
theorem Aside.out {p : Prop} (h : Aside p) : p := h
theorem aside {p : Prop} (h : p) : Aside p := h

/-- ints as cells -/
def ints (l : List Int) : List Value := l.map (Value.int .i64)
theorem ints_length (l : List Int) : (ints l).length = l.length := by simp [ints]
theorem ints_append (a b : List Int) : ints (a ++ b) = ints a ++ ints b := by simp [ints]
theorem ints_nil : ints [] = [] := rfl
theorem ints_one (l : List Int) : ∀ u ∈ ints l, u.oneCell' = true := ints_oneCell .i64 l
theorem ints_get (l : List Int) (j : Nat) (h : j < l.length) : (ints l)[j]? = some (.int .i64 (l.getD j 0)) := by
  simp [ints, h]

theorem own_base {w : World} {B B' : Nat} {e : TypeId} {size : Nat} {v : Value} {n : Nat} {xs : List Value} (h : w.ownsRow B e size v n xs) (hB : B' ≤ B) : w.ownsRow B' e size v n xs := by
  obtain ⟨h1, h2⟩ := h
  refine ⟨h1, ?_⟩
  rcases h2 with h2 | ⟨g, cap, cur, a, b, c⟩
  · exact .inl h2
  · exact .inr ⟨g, cap, cur, a, by omega, c⟩

theorem own_up {w : World} {B B' : Nat} {e : TypeId} {size : Nat} {v : Value} {n : Nat} {xs : List Value} (h : w.ownsRow B e size v n xs) (hB : ∀ g, v.ownBlock = some g → B' ≤ g) : w.ownsRow B' e size v n xs := by
  obtain ⟨h1, h2⟩ := h
  refine ⟨h1, ?_⟩
  rcases h2 with h2 | ⟨g, cap, cur, a, b, c⟩
  · exact .inl h2
  · exact .inr ⟨g, cap, cur, a, hB g (by subst a; rfl), c⟩

theorem own_drewN {w : World} {B : Nat} {e : TypeId} {size : Nat} {v : Value} {n : Nat} {xs : List Value} (h : w.ownsRow B e size v n xs) (k : Nat) : (w.drewN k).ownsRow B e size v n xs := h

/-- A slice value that reads as a list of ints. -/
def IsInts (w : World) (v : Value) (l : List Int) : Prop :=
  ∃ A c, v = .slice A l.length c ∧ l.length ≤ c ∧ c ≤ 9223372036854775807 ∧ (0 < l.length → ∃ b off, A = some ⟨b, off, none⟩ ∧ ∀ j, j < l.length → w.cell? ⟨b, off + j, none⟩ = some (.int .i64 (l.getD j 0)))

theorem IsInts.nil_ (w : World) (A : Option Addr) (c : Nat) (hc : c ≤ 9223372036854775807) : IsInts w (.slice A 0 c) [] := ⟨A, c, rfl, Nat.zero_le _, hc, fun h => absurd h (by simp)⟩

theorem IsInts.keep {w w' : World} {v : Value} {l : List Int} (h : IsInts w v l) (hk : ∀ b o, b < w.heap.size → w'.cell? ⟨b, o, none⟩ = w.cell? ⟨b, o, none⟩) : IsInts w' v l := by
  obtain ⟨A, c, rfl, h0, h1, h2⟩ := h
  refine ⟨A, c, rfl, h0, h1, fun hp => ?_⟩
  obtain ⟨b, off, rfl, hc⟩ := h2 hp
  refine ⟨b, off, rfl, fun j hj => ?_⟩
  have hlt := World.block_lt_of_cell? w _ (hc j hj)
  rw [hk b _ hlt]
  exact hc j hj

theorem IsInts.below {w w' : World} {v : Value} {l : List Int} {B : Nat} (h : IsInts w v l) (hb : Below B w w') (hB : w.heap.size ≤ B) : IsInts w' v l :=
  h.keep fun b o hlt => hb.cell (p := ⟨b, o, none⟩) (by show b < B; omega)

theorem IsInts.drewN {w : World} {v : Value} {l : List Int} (h : IsInts w v l) (n : Nat) : IsInts (w.drewN n) v l := h
theorem IsInts.alloc {w : World} {v : Value} {l : List Int} (h : IsInts w v l) (o : Obj) : IsInts (w.alloc o) v l :=
  h.keep fun b off hlt => World.cell?_alloc_lt w o ⟨b, off, none⟩ hlt

theorem IsInts.of_own {w : World} {B : Nat} {e : TypeId} {v : Value} {l : List Int} (h : w.ownsRow B e 1 v l.length (ints l)) : IsInts w v l := by
  rcases h.2 with ⟨rfl, h0⟩ | ⟨g, cap, cur, rfl, _, _, hnc, hcm, _⟩
  · have : l = [] := List.eq_nil_of_length_eq_zero h0
    subst this
    exact IsInts.nil_ _ _ _ (by omega)
  · refine ⟨_, cap, rfl, hnc, hcm, fun _ => ⟨g, 0, rfl, fun j hj => ?_⟩⟩
    have := h.cellAt j (by omega)
    rw [Nat.zero_add, this, ints_get l j hj]

/-- A take of a slice that reads as a list. -/
theorem IsInts.take_ {w : World} {A : Option Addr} {n c : Nat} {l : List Int} (h : IsInts w (.slice A n c) l) (k : Nat) (hk : k ≤ l.length) : IsInts w (.slice A k c) (l.take k) := by
  obtain ⟨A', c1, he, h0, h1, h2⟩ := h
  injection he with e1 e3 e4
  subst e1; subst e4
  have hl : (l.take k).length = k := by simp; omega
  refine ⟨A, c, by rw [hl], by omega, h1, fun hp => ?_⟩
  obtain ⟨b, off, rfl, hc⟩ := h2 (by omega)
  refine ⟨b, off, rfl, fun j hj => ?_⟩
  rw [hc j (by omega)]
  have : (l.take k).getD j 0 = l.getD j 0 := by
    simp only [List.getD_eq_getElem?_getD, List.getElem?_take]
    rw [if_pos (by omega)]
  rw [this]

/-- The cells that came in. -/
theorem isInts_of_cells {w : World} {a : Addr} {n c : Nat} {zs : List Int} (hn : n ≤ c) (hc : c ≤ 9223372036854775807) (hz : zs.length = c) (hcell : ∀ i, i < zs.length → w.cell? (a.add i) = some (.int .i64 (zs.getD i 0))) : IsInts w (.slice (some a) n c) (zs.take n) := by
  have hl : (zs.take n).length = n := by simp; omega
  refine ⟨some a, c, by rw [hl], by omega, hc, fun hp => ?_⟩
  obtain ⟨ab, ao, spot⟩ := a
  have hspot : spot = none := by simpa [Addr.add] using World.cell?_spot (hcell 0 (by omega))
  subst hspot
  refine ⟨ab, ao, rfl, fun j hj => ?_⟩
  have h1 := hcell j (by omega)
  have h2 : (zs.take n).getD j 0 = zs.getD j 0 := by
    simp only [List.getD_eq_getElem?_getD, List.getElem?_take]
    rw [if_pos (by omega)]
  rw [h2, ← h1]
  unfold Addr.add
  split
  · rename_i h; subst h; rfl
  · rfl

end Go.Proofs.Ytilblnolfcbdlaa
