/-
  Contracts of the two Blanks.
-/
import Derived.Test.YtaocnnebfnlgiaaDoorBase
namespace Go.Proofs.YtaocnnebfnlgiaaDoor
open Go.RowKit

def blankB (c : Int) : Bool := decide ((9 ≤ c ∧ c ≤ 13) ∨ c = 32 ∨ c = 160 ∨ c = 8201 ∨ c = 8239)
def blankL : List Int := [9, 10, 11, 12, 13, 32, 160, 8201, 8239]
theorem blankL_yes (c : Int) (k : Nat) (hk : k < 9) (h : blankL.getD k 0 = c) : blankB c = true := by
  have : k = 0 ∨ k = 1 ∨ k = 2 ∨ k = 3 ∨ k = 4 ∨ k = 5 ∨ k = 6 ∨ k = 7 ∨ k = 8 := by omega
  rcases this with rfl | rfl | rfl | rfl | rfl | rfl | rfl | rfl | rfl <;> subst h <;> decide
theorem blankL_no (c : Int) (h : ∀ j, j < 9 → blankL.getD j 0 ≠ c) : blankB c = false := by
  have h0 := h 0 (by omega)
  have h1 := h 1 (by omega)
  have h2 := h 2 (by omega)
  have h3 := h 3 (by omega)
  have h4 := h 4 (by omega)
  have h5 := h 5 (by omega)
  have h6 := h 6 (by omega)
  have h7 := h 7 (by omega)
  have h8 := h 8 (by omega)
  simp [blankL] at h0 h1 h2 h3 h4 h5 h6 h7 h8
  simp [blankB]
  omega

set_option maxHeartbeats 1000000 in
theorem blank_any (c : Int) (w : World) :
    Calls Tryd.prog 25 #[.int .i64 c] w fun e w' => e = .returned (.bool (blankB c)) ∧ w = w' := by
  obtain ⟨b, hb⟩ : ∃ b, blankB c = b := ⟨_, rfl⟩
  have H := Lib.hid hb
  rw [hb]; clear hb
  by_cases h1 : 9 ≤ c
  · by_cases h2 : c ≤ 13
    · go_enter Tryd.func25, Tryd.ntmps25
      go_wp2
      go_ret
      exact ⟨ret_bool (by rw [← H.out]; simp [blankB]; omega), rfl⟩
    · by_cases e1 : c = 32
      · subst e1
        go_enter Tryd.func25, Tryd.ntmps25
        go_wp2
        go_ret
        exact ⟨ret_bool (by rw [← H.out]; rfl), rfl⟩
      · by_cases e2 : c = 160
        · subst e2
          go_enter Tryd.func25, Tryd.ntmps25
          go_wp2
          go_ret
          exact ⟨ret_bool (by rw [← H.out]; rfl), rfl⟩
        · by_cases e3 : c = 8201
          · subst e3
            go_enter Tryd.func25, Tryd.ntmps25
            go_wp2
            go_ret
            exact ⟨ret_bool (by rw [← H.out]; rfl), rfl⟩
          · by_cases e4 : c = 8239
            · subst e4
              go_enter Tryd.func25, Tryd.ntmps25
              go_wp2
              go_ret
              exact ⟨ret_bool (by rw [← H.out]; rfl), rfl⟩
            · have E := Lib.hid (show blankB c = false by simp [blankB]; omega)
              have f1 : (c == 32) = false := by simpa using e1
              have f2 : (c == 160) = false := by simpa using e2
              have f3 : (c == 8201) = false := by simpa using e3
              have f4 : (c == 8239) = false := by simpa using e4
              clear e1 e2 e3 e4
              go_enter Tryd.func25, Tryd.ntmps25
              go_wp2
              go_ret
              exact ⟨ret_bool (by rw [← H.out, E.out]), rfl⟩
  · have E := Lib.hid (show blankB c = false by simp [blankB]; omega)
    have f1 : (c == 32) = false := by simp; omega
    have f2 : (c == 160) = false := by simp; omega
    have f3 : (c == 8201) = false := by simp; omega
    have f4 : (c == 8239) = false := by simp; omega
    go_enter Tryd.func25, Tryd.ntmps25
    go_wp2
    go_ret
    exact ⟨ret_bool (by rw [← H.out, E.out]), rfl⟩

set_option maxHeartbeats 1000000 in
theorem rblank_any (c : Int) (w : World) :
    Calls Tryd.prog 27 #[.int .i64 c] w fun e w' => e = .returned (.bool (blankB c)) ∧ Below w.heap.size w w' := by
  have hcell : Hid (∀ k, k < 9 → (w.alloc (.cells #[.int .i64 9, .int .i64 10, .int .i64 11, .int .i64 12, .int .i64 13, .int .i64 32, .int .i64 160, .int .i64 8201, .int .i64 8239] 3)).cell? ⟨w.heap.size, k, none⟩ = some (.int .i64 (blankL.getD k 0))) := by
    intro k hk
    rw [cell_of_row _ w.heap.size k _ _ (0, 0) (heap_alloc_new w _)]
    have : k = 0 ∨ k = 1 ∨ k = 2 ∨ k = 3 ∨ k = 4 ∨ k = 5 ∨ k = 6 ∨ k = 7 ∨ k = 8 := by omega
    rcases this with rfl | rfl | rfl | rfl | rfl | rfl | rfl | rfl | rfl <;> rfl
  go_enter Tryd.func27, Tryd.ntmps27
  go_wp2_with fail
  obtain ⟨W, hW⟩ : ∃ W, w.alloc (.cells #[.int .i64 9, .int .i64 10, .int .i64 11, .int .i64 12, .int .i64 13, .int .i64 32, .int .i64 160, .int .i64 8201, .int .i64 8239] 3) = W := ⟨_, rfl⟩
  have HB : Hid (Below w.heap.size w W) := by rw [← hW]; exact (Below.refl _ _).alloc (Nat.le_refl _) _
  rw [hW] at hcell ⊢
  clear hW
  go_loop [4] (fun i => ∃ k : Nat, i = .int .i64 k ∧ k ≤ 9 ∧ Hid (∀ j, j < k → blankL.getD j 0 ≠ c)) (fun i => 9 - (intOf i).toNat)
  case atStart => exact ⟨0, rfl, by omega, fun j hj => absurd hj (by omega)⟩
  case round =>
    obtain ⟨k, rfl, hk, HN⟩ := hrel
    by_cases hlt : k < 9
    · have hck := hcell.out k hlt
      obtain ⟨x, hx⟩ : ∃ x, blankL.getD k 0 = x := ⟨_, rfl⟩
      rw [hx] at hck
      have HX := Lib.hid hx
      clear hx
      by_cases hxc : x = c
      · have HY := Lib.hid (blankL_yes c k hlt (by rw [HX.out]; exact hxc))
        have hb : (x == c) = true := beq_iff_eq.2 hxc
        clear hxc
        go_wp2
        go_ret
        exact ⟨ret_bool (by rw [HY.out]), HB.out⟩
      · have hb : (x == c) = false := beq_eq_false_iff_ne.2 hxc
        have HNE := Lib.hid hxc
        clear hxc
        go_wp2
        go_round
        case rel =>
          refine ⟨k + 1, by go_num, by omega, fun j hj => ?_⟩
          by_cases e : j = k
          · rw [e, HX.out]; exact HNE.out
          · exact HN.out j (by omega)
        case measure => simp [intOf]; omega
    · have HY := Lib.hid (blankL_no c (fun j hj => HN.out j (by omega)))
      go_wp2
      go_ret
      exact ⟨ret_bool (by rw [HY.out]), HB.out⟩

end Go.Proofs.YtaocnnebfnlgiaaDoor
