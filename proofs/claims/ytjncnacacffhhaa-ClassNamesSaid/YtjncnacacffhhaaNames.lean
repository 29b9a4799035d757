/-
  The contract of Name; the walk of ClassNames.
-/
import Derived.Test.YtjncnacacffhhaaClassB
import Derived.Deep.RegionHeld3
namespace Go.Proofs.Ytjncnacacffhhaa
open Go.RowKit

def nameL : List (List UInt8) := [[79, 116, 104, 101, 114], [67, 82], [76, 70], [67, 111, 110, 116, 114, 111, 108], [69, 120, 116, 101, 110, 100], [90, 87, 74], [82, 101, 103, 105, 111, 110, 97, 108], [80, 114, 101, 112, 101, 110, 100], [83, 112, 97, 99, 105, 110, 103], [72, 97, 110, 103, 117, 108, 76], [72, 97, 110, 103, 117, 108, 86], [72, 97, 110, 103, 117, 108, 84], [72, 97, 110, 103, 117, 108, 76, 86], [72, 97, 110, 103, 117, 108, 76, 86, 84], [80, 105, 99, 116, 111]]
/-- A class's name. -/
def nameS (c : Int) : ByteArray := if 0 ≤ c ∧ c < 15 then ⟨(nameL.getD c.toNat []).toArray⟩ else ⟨#[]⟩

set_option maxHeartbeats 400000 in
theorem name_0 (w : World) : Calls Try.prog 20 #[.int .i64 0] w fun e w' => e = .returned (.string (nameS 0)) ∧ Below w.heap.size w w' := by
  go_enter Try.func20, Try.ntmps20
  go_wp2
  go_ret
  exact ⟨rfl, (Below.refl _ _).alloc (Nat.le_refl _) _⟩
set_option maxHeartbeats 400000 in
theorem name_1 (w : World) : Calls Try.prog 20 #[.int .i64 1] w fun e w' => e = .returned (.string (nameS 1)) ∧ Below w.heap.size w w' := by
  go_enter Try.func20, Try.ntmps20
  go_wp2
  go_ret
  exact ⟨rfl, (Below.refl _ _).alloc (Nat.le_refl _) _⟩
set_option maxHeartbeats 400000 in
theorem name_2 (w : World) : Calls Try.prog 20 #[.int .i64 2] w fun e w' => e = .returned (.string (nameS 2)) ∧ Below w.heap.size w w' := by
  go_enter Try.func20, Try.ntmps20
  go_wp2
  go_ret
  exact ⟨rfl, (Below.refl _ _).alloc (Nat.le_refl _) _⟩
set_option maxHeartbeats 400000 in
theorem name_3 (w : World) : Calls Try.prog 20 #[.int .i64 3] w fun e w' => e = .returned (.string (nameS 3)) ∧ Below w.heap.size w w' := by
  go_enter Try.func20, Try.ntmps20
  go_wp2
  go_ret
  exact ⟨rfl, (Below.refl _ _).alloc (Nat.le_refl _) _⟩
set_option maxHeartbeats 400000 in
theorem name_4 (w : World) : Calls Try.prog 20 #[.int .i64 4] w fun e w' => e = .returned (.string (nameS 4)) ∧ Below w.heap.size w w' := by
  go_enter Try.func20, Try.ntmps20
  go_wp2
  go_ret
  exact ⟨rfl, (Below.refl _ _).alloc (Nat.le_refl _) _⟩
set_option maxHeartbeats 400000 in
theorem name_5 (w : World) : Calls Try.prog 20 #[.int .i64 5] w fun e w' => e = .returned (.string (nameS 5)) ∧ Below w.heap.size w w' := by
  go_enter Try.func20, Try.ntmps20
  go_wp2
  go_ret
  exact ⟨rfl, (Below.refl _ _).alloc (Nat.le_refl _) _⟩
set_option maxHeartbeats 400000 in
theorem name_6 (w : World) : Calls Try.prog 20 #[.int .i64 6] w fun e w' => e = .returned (.string (nameS 6)) ∧ Below w.heap.size w w' := by
  go_enter Try.func20, Try.ntmps20
  go_wp2
  go_ret
  exact ⟨rfl, (Below.refl _ _).alloc (Nat.le_refl _) _⟩
set_option maxHeartbeats 400000 in
theorem name_7 (w : World) : Calls Try.prog 20 #[.int .i64 7] w fun e w' => e = .returned (.string (nameS 7)) ∧ Below w.heap.size w w' := by
  go_enter Try.func20, Try.ntmps20
  go_wp2
  go_ret
  exact ⟨rfl, (Below.refl _ _).alloc (Nat.le_refl _) _⟩
set_option maxHeartbeats 400000 in
theorem name_8 (w : World) : Calls Try.prog 20 #[.int .i64 8] w fun e w' => e = .returned (.string (nameS 8)) ∧ Below w.heap.size w w' := by
  go_enter Try.func20, Try.ntmps20
  go_wp2
  go_ret
  exact ⟨rfl, (Below.refl _ _).alloc (Nat.le_refl _) _⟩
set_option maxHeartbeats 400000 in
theorem name_9 (w : World) : Calls Try.prog 20 #[.int .i64 9] w fun e w' => e = .returned (.string (nameS 9)) ∧ Below w.heap.size w w' := by
  go_enter Try.func20, Try.ntmps20
  go_wp2
  go_ret
  exact ⟨rfl, (Below.refl _ _).alloc (Nat.le_refl _) _⟩
set_option maxHeartbeats 400000 in
theorem name_10 (w : World) : Calls Try.prog 20 #[.int .i64 10] w fun e w' => e = .returned (.string (nameS 10)) ∧ Below w.heap.size w w' := by
  go_enter Try.func20, Try.ntmps20
  go_wp2
  go_ret
  exact ⟨rfl, (Below.refl _ _).alloc (Nat.le_refl _) _⟩
set_option maxHeartbeats 400000 in
theorem name_11 (w : World) : Calls Try.prog 20 #[.int .i64 11] w fun e w' => e = .returned (.string (nameS 11)) ∧ Below w.heap.size w w' := by
  go_enter Try.func20, Try.ntmps20
  go_wp2
  go_ret
  exact ⟨rfl, (Below.refl _ _).alloc (Nat.le_refl _) _⟩
set_option maxHeartbeats 400000 in
theorem name_12 (w : World) : Calls Try.prog 20 #[.int .i64 12] w fun e w' => e = .returned (.string (nameS 12)) ∧ Below w.heap.size w w' := by
  go_enter Try.func20, Try.ntmps20
  go_wp2
  go_ret
  exact ⟨rfl, (Below.refl _ _).alloc (Nat.le_refl _) _⟩
set_option maxHeartbeats 400000 in
theorem name_13 (w : World) : Calls Try.prog 20 #[.int .i64 13] w fun e w' => e = .returned (.string (nameS 13)) ∧ Below w.heap.size w w' := by
  go_enter Try.func20, Try.ntmps20
  go_wp2
  go_ret
  exact ⟨rfl, (Below.refl _ _).alloc (Nat.le_refl _) _⟩
set_option maxHeartbeats 400000 in
theorem name_14 (w : World) : Calls Try.prog 20 #[.int .i64 14] w fun e w' => e = .returned (.string (nameS 14)) ∧ Below w.heap.size w w' := by
  go_enter Try.func20, Try.ntmps20
  go_wp2
  go_ret
  exact ⟨rfl, (Below.refl _ _).alloc (Nat.le_refl _) _⟩
set_option maxHeartbeats 400000 in
theorem name_none (c : Int) (w : World) (h : c < 0 ∨ 15 ≤ c) : Calls Try.prog 20 #[.int .i64 c] w fun e w' => e = .returned (.string ⟨#[]⟩) ∧ Below w.heap.size w w' := by
  by_cases h0 : c < 0
  · clear h
    go_enter Try.func20, Try.ntmps20
    go_wp2
    go_ret
    exact ⟨rfl, (Below.refl _ _).alloc (Nat.le_refl _) _⟩
  · have h1 : 15 ≤ c := by omega
    clear h
    go_enter Try.func20, Try.ntmps20
    go_wp2
    go_ret
    exact ⟨rfl, (Below.refl _ _).alloc (Nat.le_refl _) _⟩

theorem name_any (c : Int) (w : World) : Calls Try.prog 20 #[.int .i64 c] w fun e w' => e = .returned (.string (nameS c)) ∧ Below w.heap.size w w' := by
  by_cases h : c < 0 ∨ 15 ≤ c
  · have e : nameS c = ⟨#[]⟩ := by unfold nameS; rw [if_neg (by omega)]
    rw [e]; exact name_none c w h
  · have h2 : c = 0 ∨ c = 1 ∨ c = 2 ∨ c = 3 ∨ c = 4 ∨ c = 5 ∨ c = 6 ∨ c = 7 ∨ c = 8 ∨ c = 9 ∨ c = 10 ∨ c = 11 ∨ c = 12 ∨ c = 13 ∨ c = 14 := by omega
    rcases h2 with rfl | rfl | rfl | rfl | rfl | rfl | rfl | rfl | rfl | rfl | rfl | rfl | rfl | rfl | rfl
    · exact name_0 w
    · exact name_1 w
    · exact name_2 w
    · exact name_3 w
    · exact name_4 w
    · exact name_5 w
    · exact name_6 w
    · exact name_7 w
    · exact name_8 w
    · exact name_9 w
    · exact name_10 w
    · exact name_11 w
    · exact name_12 w
    · exact name_13 w
    · exact name_14 w

theorem nameS_ne (x y : Nat) (hx : x < 15) (hy : y < 15) (h : x ≠ y) : nameL.getD x [] ≠ nameL.getD y [] := by
  have H : ∀ a : Fin 15, ∀ b : Fin 15, a ≠ b → nameL.getD a.val [] ≠ nameL.getD b.val [] := by decide
  exact H ⟨x, hx⟩ ⟨y, hy⟩ (fun e => h (by simpa using e))
theorem nameS_pos (x : Nat) (hx : x < 15) : nameL.getD x [] ≠ [] := by
  have H : ∀ a : Fin 15, nameL.getD a.val [] ≠ [] := by decide
  exact H ⟨x, hx⟩
theorem nameS_nat (x : Nat) (hx : x < 15) : nameS (x : Int) = ⟨(nameL.getD x []).toArray⟩ := by
  unfold nameS; rw [if_pos ⟨by omega, by omega⟩, Int.toNat_natCast]

end Go.Proofs.Ytjncnacacffhhaa
