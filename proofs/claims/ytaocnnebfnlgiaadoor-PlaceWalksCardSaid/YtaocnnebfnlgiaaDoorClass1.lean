/-
  Contracts: a class's ranges; whether a range has a character.
-/
import Derived.Test.YtaocnnebfnlgiaaDoorMem
import Derived.Test.YtaocnnebfnlgiaaDoorRows
import Derived.Test.YtaocnnebfnlgiaaDoorClassP
import Derived.Test.YtaocnnebfnlgiaaDoorShelf
import Derived.Deep.QuietTactic
import Derived.BigQuiet
namespace Go.Proofs.YtaocnnebfnlgiaaDoor
open Go.RowKit

/-- A slice of ranges in memory: nil where there are none. -/
def IsRng (w : World) (v : Value) (rs : List (Int × Int)) : Prop :=
  ∃ A, v = .slice A rs.length rs.length ∧ ((rs = [] ∧ A = none) ∨ ∃ b, A = some ⟨b, 0, none⟩ ∧ b < w.heap.size ∧ ∀ j u, (rcells rs)[j]? = some u → w.cell? ⟨b, j, none⟩ = some u)

theorem isRng_new (w : World) (rs : List (Int × Int)) (cs : Array Value) (t : TypeId) (n : Nat) (hn : n = rs.length) (h : cs.toList = rcells rs) : IsRng (w.alloc (.cells cs t)) (.slice (some ⟨w.heap.size, 0, none⟩) n n) rs := by
  subst hn
  refine ⟨_, rfl, .inr ⟨w.heap.size, rfl, by simp, fun j u hj => ?_⟩⟩
  rw [cell_of_row _ w.heap.size j cs t (0, 0) (heap_alloc_new w _), ← hj, ← h]
  simp

set_option maxRecDepth 100000 in
set_option maxHeartbeats 1000000 in
theorem ranges_1 (w : World) : Calls Tryd.prog 52 #[.int .i64 1] w fun e w' => ∃ v, e = .returned v ∧ IsRng w' v rng1 ∧ Below w.heap.size w w' := by
  go_enter Tryd.func52, Tryd.ntmps52
  go_wp2
  go_ret
  exact ⟨_, rfl, isRng_new w rng1 _ _ _ rfl rfl, (Below.refl _ _).alloc (Nat.le_refl _) _⟩
set_option maxRecDepth 100000 in
set_option maxHeartbeats 1000000 in
theorem ranges_2 (w : World) : Calls Tryd.prog 52 #[.int .i64 2] w fun e w' => ∃ v, e = .returned v ∧ IsRng w' v rng2 ∧ Below w.heap.size w w' := by
  go_enter Tryd.func52, Tryd.ntmps52
  go_wp2
  go_ret
  exact ⟨_, rfl, isRng_new w rng2 _ _ _ rfl rfl, (Below.refl _ _).alloc (Nat.le_refl _) _⟩
set_option maxRecDepth 100000 in
set_option maxHeartbeats 1000000 in
theorem ranges_3 (w : World) : Calls Tryd.prog 52 #[.int .i64 3] w fun e w' => ∃ v, e = .returned v ∧ IsRng w' v rng3 ∧ Below w.heap.size w w' := by
  go_enter Tryd.func52, Tryd.ntmps52
  go_wp2
  go_ret
  exact ⟨_, rfl, isRng_new w rng3 _ _ _ rfl rfl, (Below.refl _ _).alloc (Nat.le_refl _) _⟩
set_option maxRecDepth 100000 in
set_option maxHeartbeats 1000000 in
theorem ranges_4 (w : World) : Calls Tryd.prog 52 #[.int .i64 4] w fun e w' => ∃ v, e = .returned v ∧ IsRng w' v rng4 ∧ Below w.heap.size w w' := by
  go_enter Tryd.func52, Tryd.ntmps52
  go_wp2
  go_ret
  exact ⟨_, rfl, isRng_new w rng4 _ _ _ rfl rfl, (Below.refl _ _).alloc (Nat.le_refl _) _⟩
set_option maxRecDepth 100000 in
set_option maxHeartbeats 1000000 in
theorem ranges_5 (w : World) : Calls Tryd.prog 52 #[.int .i64 5] w fun e w' => ∃ v, e = .returned v ∧ IsRng w' v rng5 ∧ Below w.heap.size w w' := by
  go_enter Tryd.func52, Tryd.ntmps52
  go_wp2
  go_ret
  exact ⟨_, rfl, isRng_new w rng5 _ _ _ rfl rfl, (Below.refl _ _).alloc (Nat.le_refl _) _⟩
set_option maxRecDepth 100000 in
set_option maxHeartbeats 1000000 in
theorem ranges_6 (w : World) : Calls Tryd.prog 52 #[.int .i64 6] w fun e w' => ∃ v, e = .returned v ∧ IsRng w' v rng6 ∧ Below w.heap.size w w' := by
  go_enter Tryd.func52, Tryd.ntmps52
  go_wp2
  go_ret
  exact ⟨_, rfl, isRng_new w rng6 _ _ _ rfl rfl, (Below.refl _ _).alloc (Nat.le_refl _) _⟩
set_option maxRecDepth 100000 in
set_option maxHeartbeats 1000000 in
theorem ranges_7 (w : World) : Calls Tryd.prog 52 #[.int .i64 7] w fun e w' => ∃ v, e = .returned v ∧ IsRng w' v rng7 ∧ Below w.heap.size w w' := by
  go_enter Tryd.func52, Tryd.ntmps52
  go_wp2
  go_ret
  exact ⟨_, rfl, isRng_new w rng7 _ _ _ rfl rfl, (Below.refl _ _).alloc (Nat.le_refl _) _⟩
set_option maxRecDepth 100000 in
set_option maxHeartbeats 1000000 in
theorem ranges_8 (w : World) : Calls Tryd.prog 52 #[.int .i64 8] w fun e w' => ∃ v, e = .returned v ∧ IsRng w' v rng8 ∧ Below w.heap.size w w' := by
  go_enter Tryd.func52, Tryd.ntmps52
  go_wp2
  go_ret
  exact ⟨_, rfl, isRng_new w rng8 _ _ _ rfl rfl, (Below.refl _ _).alloc (Nat.le_refl _) _⟩
set_option maxRecDepth 100000 in
set_option maxHeartbeats 1000000 in
theorem ranges_9 (w : World) : Calls Tryd.prog 52 #[.int .i64 9] w fun e w' => ∃ v, e = .returned v ∧ IsRng w' v rng9 ∧ Below w.heap.size w w' := by
  go_enter Tryd.func52, Tryd.ntmps52
  go_wp2
  go_ret
  exact ⟨_, rfl, isRng_new w rng9 _ _ _ rfl rfl, (Below.refl _ _).alloc (Nat.le_refl _) _⟩
set_option maxRecDepth 100000 in
set_option maxHeartbeats 1000000 in
theorem ranges_10 (w : World) : Calls Tryd.prog 52 #[.int .i64 10] w fun e w' => ∃ v, e = .returned v ∧ IsRng w' v rng10 ∧ Below w.heap.size w w' := by
  go_enter Tryd.func52, Tryd.ntmps52
  go_wp2
  go_ret
  exact ⟨_, rfl, isRng_new w rng10 _ _ _ rfl rfl, (Below.refl _ _).alloc (Nat.le_refl _) _⟩
set_option maxRecDepth 100000 in
set_option maxHeartbeats 1000000 in
theorem ranges_11 (w : World) : Calls Tryd.prog 52 #[.int .i64 11] w fun e w' => ∃ v, e = .returned v ∧ IsRng w' v rng11 ∧ Below w.heap.size w w' := by
  go_enter Tryd.func52, Tryd.ntmps52
  go_wp2
  go_ret
  exact ⟨_, rfl, isRng_new w rng11 _ _ _ rfl rfl, (Below.refl _ _).alloc (Nat.le_refl _) _⟩
set_option maxRecDepth 100000 in
set_option maxHeartbeats 1000000 in
theorem ranges_14 (w : World) : Calls Tryd.prog 52 #[.int .i64 14] w fun e w' => ∃ v, e = .returned v ∧ IsRng w' v rng14 ∧ Below w.heap.size w w' := by
  go_enter Tryd.func52, Tryd.ntmps52
  go_wp2
  go_ret
  exact ⟨_, rfl, isRng_new w rng14 _ _ _ rfl rfl, (Below.refl _ _).alloc (Nat.le_refl _) _⟩
set_option maxRecDepth 100000 in
set_option maxHeartbeats 1000000 in
theorem ranges_none (k : Int) (w : World) (h : k < 1 ∨ 14 < k ∨ k = 12 ∨ k = 13) : Calls Tryd.prog 52 #[.int .i64 k] w fun e w' => ∃ v, e = .returned v ∧ IsRng w' v [] ∧ Below w.heap.size w w' := by
  have n1 : ¬ k = 1 := by omega
  have n2 : ¬ k = 2 := by omega
  have n3 : ¬ k = 3 := by omega
  have n4 : ¬ k = 4 := by omega
  have n5 : ¬ k = 5 := by omega
  have n6 : ¬ k = 6 := by omega
  have n7 : ¬ k = 7 := by omega
  have n8 : ¬ k = 8 := by omega
  have n9 : ¬ k = 9 := by omega
  have n10 : ¬ k = 10 := by omega
  have n11 : ¬ k = 11 := by omega
  have n14 : ¬ k = 14 := by omega
  clear h
  go_enter Tryd.func52, Tryd.ntmps52
  go_wp2
  go_ret
  exact ⟨_, rfl, ⟨none, rfl, .inl ⟨rfl, rfl⟩⟩, Below.refl _ _⟩

theorem ranges_any (k : Int) (w : World) : Calls Tryd.prog 52 #[.int .i64 k] w fun e w' => ∃ v, e = .returned v ∧ IsRng w' v (rng k) ∧ Below w.heap.size w w' := by
  by_cases h : k < 1 ∨ 14 < k ∨ k = 12 ∨ k = 13
  · have e : rng k = [] := by
      unfold rng
      rw [if_neg (by omega), if_neg (by omega), if_neg (by omega), if_neg (by omega), if_neg (by omega), if_neg (by omega), if_neg (by omega), if_neg (by omega), if_neg (by omega), if_neg (by omega), if_neg (by omega), if_neg (by omega)]
    rw [e]
    exact ranges_none k w h
  · have h2 : k = 1 ∨ k = 2 ∨ k = 3 ∨ k = 4 ∨ k = 5 ∨ k = 6 ∨ k = 7 ∨ k = 8 ∨ k = 9 ∨ k = 10 ∨ k = 11 ∨ k = 14 := by omega
    rcases h2 with rfl | rfl | rfl | rfl | rfl | rfl | rfl | rfl | rfl | rfl | rfl | rfl
    · exact ranges_1 w
    · exact ranges_2 w
    · exact ranges_3 w
    · exact ranges_4 w
    · exact ranges_5 w
    · exact ranges_6 w
    · exact ranges_7 w
    · exact ranges_8 w
    · exact ranges_9 w
    · exact ranges_10 w
    · exact ranges_11 w
    · exact ranges_14 w

end Go.Proofs.YtaocnnebfnlgiaaDoor
