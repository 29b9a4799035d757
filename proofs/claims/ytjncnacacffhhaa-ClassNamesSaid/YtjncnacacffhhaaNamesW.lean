/-
  The walk of ClassNames.
-/
import Derived.Test.YtjncnacacffhhaaNames
import Derived.Lib.QuietBelow
namespace Go.Proofs.Ytjncnacacffhhaa
open Go.RowKit

theorem keepS {Wc W' W : World} {p : Addr} {v : Value} {B : Nat} (h1 : Wc.cell? p = some v) (h2 : Aside (Below B W Wc)) (hb : Below Wc.heap.size Wc W') (hB : W.heap.size = B) : W'.cell? p = some v ∧ Aside (Below B W W') := by
  refine ⟨?_, h2.out.trans (hb.mono (by have := h2.out.size; omega))⟩
  rw [hb.cell (World.block_lt_of_cell? _ _ h1)]; exact h1

theorem finS {P : Prop} {B : Nat} {W W' : World} (h : P ∧ Aside (Below B W W')) : Below B W W' := h.2.out

theorem cell_names (w : World) (t : TypeId) (x : Nat) (hx : x < 15) (cs : Array Value) (hcs : cs.toList = nameL.map fun l => Value.string ⟨l.toArray⟩) : (w.alloc (.cells cs t)).cell? ⟨w.heap.size, x, none⟩ = some (.string ⟨(nameL.getD x []).toArray⟩) := by
  rw [cell_of_row _ w.heap.size x cs t (0, 0) (heap_alloc_new w _), ← Array.getElem?_toList, hcs]
  have hl : x < nameL.length := hx
  simp [hl]

set_option maxRecDepth 100000 in
set_option maxHeartbeats 4000000 in
theorem classNames_walk (a b : Int) (w : World) (ha0 : -9223372036854775808 ≤ a) (ha1 : a ≤ 9223372036854775807) (hb0 : -9223372036854775808 ≤ b) (hb1 : b ≤ 9223372036854775807) :
    Calls Try.prog 7 #[.int .i64 a, .int .i64 b] w fun e w' => e = .returned (.bool true) ∧ Below w.heap.size w w' := by
  obtain ⟨x, hx, hx1⟩ := around_nat a 15 (by omega)
  obtain ⟨y, hy, hy1⟩ := around_nat b 15 (by omega)
  have HX := Lib.hid hx
  have HY := Lib.hid hy
  clear hx hy
  have hx15 : x < 15 := by omega
  obtain ⟨nx, hnx⟩ : ∃ nx, nameL.getD x [] = nx := ⟨_, rfl⟩
  obtain ⟨ny, hny⟩ : ∃ ny, nameL.getD y [] = ny := ⟨_, rfl⟩
  have CX := fun (W : World) => name_any (x : Int) W
  have CY := fun (W : World) => name_any (y : Int) W
  have CA := fun (W : World) => name_any a W
  have CM := fun (W : World) => name_any (-1) W
  have CF := fun (W : World) => name_any 15 W
  have eA : ∃ na : List UInt8, nameS a = ⟨na.toArray⟩ ∧ ((0 ≤ a ∧ a < 15 ∧ na ≠ []) ∨ ((a < 0 ∨ 15 ≤ a) ∧ na = [])) := by
    by_cases h : 0 ≤ a ∧ a < 15
    · obtain ⟨k, rfl⟩ : ∃ k : Nat, a = (k : Int) := ⟨a.toNat, by omega⟩
      exact ⟨_, nameS_nat k (by omega), .inl ⟨h.1, h.2, nameS_pos k (by omega)⟩⟩
    · exact ⟨[], by unfold nameS; rw [if_neg h], .inr ⟨by omega, rfl⟩⟩
  obtain ⟨na, hna, hcase⟩ := eA
  rw [nameS_nat x (by omega), hnx] at CX
  rw [nameS_nat y (by omega), hny] at CY
  rw [hna] at CA
  rw [show nameS (-1) = ⟨#[]⟩ from rfl] at CM
  rw [show nameS 15 = ⟨#[]⟩ from rfl] at CF
  have hxy : (x = y ∧ nx = ny) ∨ (x ≠ y ∧ nx ≠ ny) := by
    by_cases h : x = y
    · subst h; exact .inl ⟨rfl, by rw [← hnx, ← hny]⟩
    · exact .inr ⟨h, by rw [← hnx, ← hny]; exact nameS_ne x y (by omega) (by omega) h⟩
  have HNX := Lib.hid hnx
  clear hnx hny hna
  have hxi0 : (0 : Int) ≤ (x : Int) := Int.natCast_nonneg _
  have hxi1 : (x : Int) < 15 := by omega
  have hxi2 : (x : Int) < ((15 : Nat) : Int) := by omega
  have hcase2 : (0 ≤ a ∧ a < 15 ∧ decide (0 ≤ a) = true ∧ decide (a < 15) = true ∧ (na == []) = false ∧ na.isEmpty = false) ∨ (a < 0 ∧ decide (0 ≤ a) = false ∧ na = []) ∨ (0 ≤ a ∧ 15 ≤ a ∧ decide (0 ≤ a) = true ∧ decide (a < 15) = false ∧ na = []) := by
    rcases hcase with ⟨h1, h2, h3⟩ | ⟨h1 | h1, h2⟩
    · exact .inl ⟨h1, h2, by simpa using h1, by simpa using h2, by simpa using h3, by simpa using h3⟩
    · exact .inr (.inl ⟨h1, by simp; omega, h2⟩)
    · exact .inr (.inr ⟨by omega, h1, by simp; omega, by simp; omega, h2⟩)
  clear hcase
  have hxy3 : (x = y ∧ nx = ny) ∨ ((nx == ny) = false ∧ ((x : Int) == (y : Int)) = false) := by
    rcases hxy with h | ⟨h1, h2⟩
    · exact .inl h
    · exact .inr ⟨by simpa using h2, by simp; omega⟩
  clear hxy
  rcases hxy3 with ⟨rfl, rfl⟩ | ⟨m1, m2⟩
  all_goals
    rcases hcase2 with ⟨hc0, hc1, g1, g2, n1, n2⟩ | ⟨hc0, g1, rfl⟩ | ⟨hc0, hc1, g1, g2, rfl⟩
  all_goals
    go_enter Try.func7, Try.ntmps7
    go_wp2_with fail
    refine (around_any a 15 w ha0 ha1 (by omega) (by omega)).mono ?_
    rintro e w' ⟨rfl, rfl⟩
    rw [HX.out]
    go_wp2_with fail
    refine (around_any b 15 w hb0 hb1 (by omega) (by omega)).mono ?_
    rintro e w' ⟨rfl, rfl⟩
    rw [HY.out]
    go_wp2_with fail
    have hck := cell_names w 9 x hx15 #[.string ⟨#[79, 116, 104, 101, 114]⟩, .string ⟨#[67, 82]⟩, .string ⟨#[76, 70]⟩, .string ⟨#[67, 111, 110, 116, 114, 111, 108]⟩, .string ⟨#[69, 120, 116, 101, 110, 100]⟩, .string ⟨#[90, 87, 74]⟩, .string ⟨#[82, 101, 103, 105, 111, 110, 97, 108]⟩, .string ⟨#[80, 114, 101, 112, 101, 110, 100]⟩, .string ⟨#[83, 112, 97, 99, 105, 110, 103]⟩, .string ⟨#[72, 97, 110, 103, 117, 108, 76]⟩, .string ⟨#[72, 97, 110, 103, 117, 108, 86]⟩, .string ⟨#[72, 97, 110, 103, 117, 108, 84]⟩, .string ⟨#[72, 97, 110, 103, 117, 108, 76, 86]⟩, .string ⟨#[72, 97, 110, 103, 117, 108, 76, 86, 84]⟩, .string ⟨#[80, 105, 99, 116, 111]⟩] rfl
    rw [HNX.out] at hck
    have B1 := aside ((Below.refl w.heap.size w).alloc (Nat.le_refl _) (.cells #[.string ⟨#[79, 116, 104, 101, 114]⟩, .string ⟨#[67, 82]⟩, .string ⟨#[76, 70]⟩, .string ⟨#[67, 111, 110, 116, 114, 111, 108]⟩, .string ⟨#[69, 120, 116, 101, 110, 100]⟩, .string ⟨#[90, 87, 74]⟩, .string ⟨#[82, 101, 103, 105, 111, 110, 97, 108]⟩, .string ⟨#[80, 114, 101, 112, 101, 110, 100]⟩, .string ⟨#[83, 112, 97, 99, 105, 110, 103]⟩, .string ⟨#[72, 97, 110, 103, 117, 108, 76]⟩, .string ⟨#[72, 97, 110, 103, 117, 108, 86]⟩, .string ⟨#[72, 97, 110, 103, 117, 108, 84]⟩, .string ⟨#[72, 97, 110, 103, 117, 108, 76, 86]⟩, .string ⟨#[72, 97, 110, 103, 117, 108, 76, 86, 84]⟩, .string ⟨#[80, 105, 99, 116, 111]⟩] 9))
    generalize w.alloc _ = W at hck B1 ⊢
    have HC := fun d os => cell_regrown hck d os
    clear hck
    refine wp_region_quiet_below (by kernel_rfl) (by kernel_rfl) ?_
    repeat (go_big_quiet_step (first
      | (go_at_call 20; first
          | (with_reducible exact Calls.regrown_of (CX _))
          | (with_reducible exact Calls.regrown_of (CY _))
          | (with_reducible exact Calls.regrown_of (CA _))
          | (with_reducible exact Calls.regrown_of (CM _))
          | (with_reducible exact Calls.regrown_of (CF _)))
      | (go_at_call 14; exact Calls.regrown_of (lives02 _))))
    refine wpQuiet_nil ?_
    intro _ hw'
    obtain ⟨⟨dq, osq⟩, hw''⟩ := hw'
    subst hw''
    go_wp2
    go_ret
    exact ⟨rfl, B1.out.trans ((below_regrown W dq osq).mono B1.out.size)⟩

end Go.Proofs.Ytjncnacacffhhaa
