/-
  The history layer's example: it answers true. And New at texts.
-/
import Derived.Test.YtilblnolfcbdlaaHistD
import Derived.Test.YtilblnolfcbdlaaBase
namespace Go.Proofs.Ytilblnolfcbdlaa
open Go.RowKit

theorem no_X (w : World) : ∀ k, (fun _ : Nat => False) k → k < w.heap.size := fun _ h => h.elim

set_option maxHeartbeats 1000000 in
theorem lives22 (w : World) :
    Calls Try.prog 15 #[] w fun e w' => e = .returned (.bool true) ∧ Below w.heap.size w w' := by
  go_enter Try.func15, Try.ntmps15
  go_wp2_with fail
  refine (new_in w 2 (by omega) (by omega)).mono ?_
  rintro e w1 ⟨rfl, h1, b1⟩
  obtain ⟨B, hB⟩ : ∃ B, w.heap.size = B := ⟨_, rfl⟩
  have HB := Lib.hid hB
  rw [hB] at h1 b1 ⊢
  clear hB
  have B1 := aside b1
  clear b1
  go_wp2_with fail
  refine (note_any _ B 2 [] [] 0 w1 1 0 h1 (no_X _) (by decide) (by decide)).mono ?_
  rintro e w2 ⟨rfl, h2, f2⟩
  rw [show noteL 2 [] 0 1 0 = [1] by decide] at h2
  have F2 := aside f2
  clear f2 h1
  go_wp2_with fail
  refine (note_any _ B 2 [1] [] 0 w2 2 0 h2 (no_X _) (by decide) (by decide)).mono ?_
  rintro e w3 ⟨rfl, h3, f3⟩
  rw [show noteL 2 [1] 0 2 0 = [1, 2] by decide] at h3
  have F3 := aside (F2.out.trans f3)
  clear f3 h2
  go_wp2_with fail
  refine (note_any _ B 2 [1, 2] [] 0 w3 3 0 h3 (no_X _) (by decide) (by decide)).mono ?_
  rintro e w4 ⟨rfl, h4, f4⟩
  rw [show noteL 2 [1, 2] 0 3 0 = [2, 3] by decide] at h4
  have F4 := aside (F3.out.trans f4)
  clear f4 h3
  go_wp2_with fail
  refine (undo_some _ B 2 [2] [] 0 w4 4 3 h4 (no_X _) (by decide)).mono ?_
  rintro e w5 ⟨rfl, h5, f5⟩
  have F5 := aside (F4.out.trans f5)
  clear f5 h4
  go_wp2_with fail
  refine (undo_some _ B 2 [] _ 0 w5 3 2 h5 (no_X _) (by decide)).mono ?_
  rintro e w6 ⟨rfl, h6, f6⟩
  have F6 := aside (F5.out.trans f6)
  clear f6 h5
  go_wp2_with fail
  refine (undo_none _ B 2 _ 0 w6 2 h6).mono ?_
  rintro e w7 ⟨rfl, rfl⟩
  clear h6
  go_wp2
  go_ret
  have hsz := B1.out.size
  have heq := HB.out
  have hb := B1.out.trans (F6.out.below (by omega))
  exact ⟨rfl, by rw [heq]; exact hb⟩

set_option maxHeartbeats 400000 in
theorem new_out (n : Int) (w : World) (h : n < 1 ∨ 1024 < n) :
    Calls Try.prog 16 #[.int .i64 n] w fun e w' => e = .returned (.tuple #[.pointer none, .int .i64 3]) ∧ w = w' := by
  by_cases h1 : n < 1
  · go_enter Try.func16, Try.ntmps16
    go_wp2
    go_ret2
    exact ⟨rfl, rfl⟩
  · have h2 : 1024 < n := by omega
    clear h
    go_enter Try.func16, Try.ntmps16
    go_wp2
    go_ret2
    exact ⟨rfl, rfl⟩

set_option maxHeartbeats 400000 in
theorem newS_out (n : Int) (w : World) (h : n < 1 ∨ 1024 < n) :
    Calls Try.prog 14 #[.int .i64 n] w fun e w' => e = .returned (.tuple #[.pointer none, .int .i64 3]) ∧ w = w' := by
  by_cases h1 : n < 1
  · go_enter Try.func14, Try.ntmps14
    go_wp2
    go_ret2
    exact ⟨rfl, rfl⟩
  · have h2 : 1024 < n := by omega
    clear h
    go_enter Try.func14, Try.ntmps14
    go_wp2
    go_ret2
    exact ⟨rfl, rfl⟩

set_option maxHeartbeats 400000 in
theorem newS_in (n : Int) (w : World) (h0 : 1 ≤ n) (h1 : n ≤ 1024) :
    Calls Try.prog 14 #[.int .i64 n] w fun e w' => ∃ p, e = .returned (.tuple #[.pointer (some p), .int .i64 0]) ∧ Below w.heap.size w w' := by
  go_enter Try.func14, Try.ntmps14
  go_wp2
  go_ret2
  exact ⟨_, rfl, (Below.refl _ _).alloc (Nat.le_refl _) _⟩

end Go.Proofs.Ytilblnolfcbdlaa
