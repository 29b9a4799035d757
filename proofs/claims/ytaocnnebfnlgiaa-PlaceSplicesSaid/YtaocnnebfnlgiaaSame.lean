/-
  The contract of Same: are two slices of ints the same list?
-/
import Derived.Test.YtaocnnebfnlgiaaBase
namespace Go.Proofs.Ytaocnnebfnlgiaa
open Go.RowKit

theorem same_step (a b : List Int) (hl : a.length = b.length) (k : Nat) (_ : k < a.length) (hne : a.getD k 0 ≠ b.getD k 0) : decide (a = b) = false := by
  apply decide_eq_false
  rintro rfl
  exact hne rfl

theorem same_end (a b : List Int) (hl : a.length = b.length) (h : ∀ j, j < a.length → a.getD j 0 = b.getD j 0) : decide (a = b) = true := by
  apply decide_eq_true
  apply List.ext_getElem hl
  intro i h1 h2
  have := h i h1
  simpa [List.getD_eq_getElem?_getD, h1, h2] using this

set_option maxHeartbeats 400000 in
theorem same_any (a b : List Int) (va vb : Value) (w : World) (ha : IsInts w va a) (hb : IsInts w vb b) (hla : a.length ≤ 9223372036854775807) (hlb : b.length ≤ 9223372036854775807) :
    Calls Try.prog 25 #[va, vb] w fun e w' => e = .returned (.bool (decide (a = b))) ∧ ∃ n, w' = w.drewN n := by
  obtain ⟨A, ca, rfl, _, _, hA⟩ := ha
  obtain ⟨B, cb, rfl, _, _, hB⟩ := hb
  obtain ⟨r, hr⟩ : ∃ r, decide (a = b) = r := ⟨_, rfl⟩
  have HR := Lib.hid hr
  rw [hr]; clear hr
  by_cases hl : a.length = b.length
  · have hl1 : ((a.length : Int) != (b.length : Int)) = false := by simp [hl]
    have HL := Lib.hid hl
    have hle1 : a.length ≤ b.length := by omega
    have hle2 : b.length ≤ a.length := by omega
    clear hl
    by_cases h0 : 0 < a.length
    · obtain ⟨ba, oa, rfl, hca⟩ := hA h0
      obtain ⟨bb, ob, rfl, hcb⟩ := hB (by omega)
      go_enter Try.func25, Try.ntmps25
      go_wp2
      go_loopw [5] (fun i wr => ∃ k n : Nat, i = .int .i64 k ∧ k ≤ a.length ∧ wr = w.drewN n ∧ Aside (∀ j, j < k → a.getD j 0 = b.getD j 0)) (fun i _ => a.length - (intOf i).toNat)
      case atStart => exact ⟨0, 0, rfl, Nat.zero_le _, rfl, fun j hj => absurd hj (by omega)⟩
      case round =>
        obtain ⟨k, n, rfl, hk, rfl, HS⟩ := hrel
        by_cases hlt : k < a.length
        · have c1 := hca k hlt
          have c2 := hcb k (by omega)
          clear hca hcb hA hB
          obtain ⟨x, hx⟩ : ∃ x, a.getD k 0 = x := ⟨_, rfl⟩
          obtain ⟨y, hy⟩ : ∃ y, b.getD k 0 = y := ⟨_, rfl⟩
          rw [hx] at c1
          rw [hy] at c2
          have HX := Lib.hid hx
          have HY := Lib.hid hy
          clear hx hy
          by_cases hxy : x = y
          · obtain rfl : x = y := hxy
            go_wp2
            go_quiet (fail)
            go_wp2
            go_roundw
            case rel =>
              refine ⟨k + 1, _, by go_num, by omega, rfl, fun j hj => ?_⟩
              by_cases h : j = k
              · rw [h, HX.out, HY.out]
              · exact HS.out j (by omega)
            case measure => simp [intOf]; omega
          · have hxy' : (x != y) = true := by simpa using hxy
            go_wp2
            go_quiet (fail)
            go_wp2
            go_ret
            exact ⟨ret_bool (by rw [← HR.out, same_step a b HL.out k hlt (by rw [HX.out, HY.out]; exact hxy)]), _, World.drewN_drewN _ _ _⟩
        · clear hca hcb hA hB
          go_wp2
          go_ret
          exact ⟨ret_bool (by rw [← HR.out, same_end a b HL.out (fun j hj => HS.out j (by omega))]), _, rfl⟩
    · have hz : a.length = 0 := by omega
      obtain rfl : a = [] := List.eq_nil_of_length_eq_zero hz
      obtain rfl : b = [] := List.eq_nil_of_length_eq_zero (by simp at hle2; simp [hle2])
      clear hA hB
      go_enter Try.func25, Try.ntmps25
      go_wp2
      refine wp_loop_rounds 1 ?_
      rw [rounds_succ]
      go_wp2
      go_ret
      exact ⟨ret_bool (by rw [← HR.out]; rfl), 0, rfl⟩
  · have hl1 : ((a.length : Int) != (b.length : Int)) = true := by simp; omega
    clear hA hB
    go_enter Try.func25, Try.ntmps25
    go_wp2
    go_ret
    exact ⟨ret_bool (by rw [← HR.out]; symm; apply decide_eq_false; rintro rfl; exact hl rfl), 0, rfl⟩

end Go.Proofs.Ytaocnnebfnlgiaa
