/-
  The first layer's example: it answers true.
-/
import Derived.Test.YtilblnolfcbdlabDoorUtf1
import Derived.Test.YtilblnolfcbdlabDoorSame
namespace Go.Proofs.YtilblnolfcbdlabDoor
open Go.RowKit

theorem enc_euro : encS 8364 (mayB 8364) = ⟨#[226, 130, 172]⟩ := by decide +kernel
theorem chars_spoilt : chars ⟨#[226, 130]⟩ = [65533, 65533] := by decide +kernel

theorem two_new (w : World) (a b : Int) (t : TypeId) : IsInts (w.alloc (.cells #[.int .i64 a, .int .i64 b] t)) (.slice (some ⟨w.heap.size, 0, none⟩) 2 2) [a, b] :=
  ⟨_, _, rfl, by simp, by omega, fun _ => ⟨_, _, rfl, fun j hj => by
    simp at hj
    have : j = 0 ∨ j = 1 := by omega
    rcases this with rfl | rfl <;> simp [World.cell?_alloc_new]⟩⟩

set_option maxHeartbeats 400000 in
theorem lives1 (w : World) :
    Calls Tryd.prog 10 #[] w fun e w' => e = .returned (.bool true) ∧ Below w.heap.size w w' := by
  go_enter Tryd.func10, Tryd.ntmps10
  go_wp2_with fail
  refine (uenc_any 8364 w (by omega) (by omega)).mono ?_
  rintro e w1 ⟨rfl, hb1⟩
  rw [enc_euro]
  go_wp2_with fail
  refine (uall_any ⟨#[226, 130]⟩ w1 (by decide)).mono ?_
  rintro e w2 ⟨v, rfl, hown, hb2⟩
  rw [chars_spoilt] at hown
  have hi := IsInts.of_own hown
  clear hown
  go_wp2_with fail
  refine (same_any [65533, 65533] [65533, 65533] _ _ _ (hi.alloc _) (two_new _ _ _ _) (by decide) (by decide)).mono ?_
  rintro e w3 ⟨rfl, n, rfl⟩
  go_wp2
  go_ret
  exact ⟨rfl, below_drewN (((hb1.trans (hb2.mono hb1.size))).alloc (by have := hb1.size; have := hb2.size; omega) _) _⟩

end Go.Proofs.YtilblnolfcbdlabDoor
