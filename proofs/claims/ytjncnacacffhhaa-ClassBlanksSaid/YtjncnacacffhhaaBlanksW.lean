/-
  The walk of ClassBlanks.
-/
import Derived.Test.YtjncnacacffhhaaBlank
import Derived.Test.YtjncnacacffhhaaClassB
namespace Go.Proofs.Ytjncnacacffhhaa
open Go.RowKit

set_option maxHeartbeats 1000000 in
theorem classBlanks_walk (n : Int) (w : World) (h0 : -9223372036854775808 ≤ n) (h1 : n ≤ 9223372036854775807) :
    Calls Try.prog 6 #[.int .i64 n] w fun e w' => e = .returned (.bool true) ∧ Below w.heap.size w w' := by
  obtain ⟨m, hm⟩ : ∃ m, aroundI n 8301 = m := ⟨_, rfl⟩
  have HM := Lib.hid hm
  clear hm
  go_enter Try.func6, Try.ntmps6
  go_wp2_with fail
  refine (around_any n 8301 w h0 h1 (by omega) (by omega)).mono ?_
  rintro e w' ⟨rfl, rfl⟩
  rw [HM.out]
  go_wp2_with fail
  refine (blank_any n w).mono ?_
  rintro e w' ⟨rfl, rfl⟩
  obtain ⟨x, hx⟩ : ∃ x, blankB n = x := ⟨_, rfl⟩
  have HX := Lib.hid hx
  rw [hx]
  clear hx
  go_wp2_with fail
  refine (rblank_any n w).mono ?_
  rintro e w1 ⟨rfl, b1⟩
  rw [HX.out]
  go_wp2_with fail
  refine (blank_any m w1).mono ?_
  rintro e w' ⟨rfl, rfl⟩
  obtain ⟨y, hy⟩ : ∃ y, blankB m = y := ⟨_, rfl⟩
  have HY := Lib.hid hy
  rw [hy]
  clear hy
  go_wp2_with fail
  refine (rblank_any m w1).mono ?_
  rintro e w2 ⟨rfl, b2⟩
  rw [HY.out]
  go_wp2_with fail
  refine (blank_any 32 w2).mono ?_
  rintro e w' ⟨rfl, rfl⟩
  rw [show blankB 32 = true by decide]
  go_wp2_with fail
  refine (blank_any 8239 w2).mono ?_
  rintro e w' ⟨rfl, rfl⟩
  rw [show blankB 8239 = true by decide]
  go_wp2_with fail
  refine (lives02 w2).mono ?_
  rintro e w3 ⟨rfl, b3⟩
  go_wp2
  go_ret
  have z1 := b1.size
  have z2 := b2.size
  exact ⟨rfl, b1.trans ((b2.mono (by omega)).trans (b3.mono (by omega)))⟩

end Go.Proofs.Ytjncnacacffhhaa
