/-
  Contracts of the small number functions: Around, May, Good of the first reference, utf.May.
-/
import Derived.Test.YtilblnolfcbdlaaRows
import Derived.Test.YtilblnolfcbdlaaMem
import Derived.WalkKit
import Derived.WalkSpells
import Derived.WalkLawsBesides
import Derived.Lib.Hide
import Derived.Deep.QuietTactic
import Derived.BigQuiet
namespace Go.Proofs.Ytilblnolfcbdlaa
open Go.RowKit

/-- Around, plain. -/
def aroundI (n m : Int) : Int := (if n < 0 then -(n + 1) else n) % m
/-- May, plain. -/
def mayB (c : Int) : Bool := decide (0 ≤ c ∧ c ≤ 1114111 ∧ (c < 55296 ∨ 57343 < c))
def goodI (n : Int) : Int := if mayB (aroundI n 1114112) = true then aroundI n 1114112 else aroundI n 1114112 + 2048

theorem aroundI_bd (n m : Int) (hm : 1 ≤ m) : 0 ≤ aroundI n m ∧ aroundI n m < m := by
  unfold aroundI
  exact ⟨Int.emod_nonneg _ (by omega), Int.emod_lt_of_pos _ (by omega)⟩

set_option maxHeartbeats 400000 in
theorem around_any (n m : Int) (w : World) (h0 : -9223372036854775808 ≤ n) (h1 : n ≤ 9223372036854775807) (hm : 1 ≤ m) (hm2 : m ≤ 9223372036854775807) :
    Calls Try.prog 13 #[.int .i64 n, .int .i64 m] w fun e w' => e = .returned (.int .i64 (aroundI n m)) ∧ w = w' := by
  by_cases hn : n < 0
  · have H := Lib.hid (show aroundI n m = (-(n + 1)) % m by unfold aroundI; rw [if_pos hn])
    have hnn : 0 ≤ -(n + 1) := by omega
    go_enter Try.func13, Try.ntmps13
    go_wp2
    go_ret
    exact ⟨ret_int (by rw [H.out, ← Int.tmod_eq_emod_of_nonneg hnn, Int.neg_tmod]), rfl⟩
  · have H := Lib.hid (show aroundI n m = n % m by unfold aroundI; rw [if_neg hn])
    have hnn : 0 ≤ n := by omega
    go_enter Try.func13, Try.ntmps13
    go_wp2
    go_ret
    exact ⟨ret_int (by rw [H.out]), rfl⟩

set_option maxHeartbeats 400000 in
theorem may_any (c : Int) (w : World) :
    Calls Try.prog 26 #[.int .i64 c] w fun e w' => e = .returned (.bool (mayB c)) ∧ w = w' := by
  obtain ⟨b, hb⟩ : ∃ b, mayB c = b := ⟨_, rfl⟩
  have H := Lib.hid hb
  rw [hb]; clear hb
  by_cases h0 : 0 ≤ c
  · by_cases h1 : c ≤ 1114111
    · by_cases h2 : c < 55296
      · go_enter Try.func26, Try.ntmps26
        go_wp2
        go_ret
        exact ⟨ret_bool (by rw [← H.out]; simp [mayB]; omega), rfl⟩
      · by_cases h3 : 57343 < c
        all_goals
          go_enter Try.func26, Try.ntmps26
          go_wp2
          go_ret
          exact ⟨ret_bool (by rw [← H.out]; simp [mayB]; omega), rfl⟩
    · go_enter Try.func26, Try.ntmps26
      go_wp2
      go_ret
      exact ⟨ret_bool (by rw [← H.out]; simp [mayB]; omega), rfl⟩
  · go_enter Try.func26, Try.ntmps26
    go_wp2
    go_ret
    exact ⟨ret_bool (by rw [← H.out]; simp [mayB]; omega), rfl⟩

set_option maxHeartbeats 400000 in
theorem umay_any (c : Int) (w : World) :
    Calls Try.prog 27 #[.int .i64 c] w fun e w' => e = .returned (.bool (mayB c)) ∧ w = w' := by
  obtain ⟨b, hb⟩ : ∃ b, mayB c = b := ⟨_, rfl⟩
  have H := Lib.hid hb
  rw [hb]; clear hb
  by_cases h0 : 0 ≤ c
  · by_cases h1 : c ≤ 1114111
    · by_cases h2 : c < 55296
      · go_enter Try.func27, Try.ntmps27
        go_wp2
        go_ret
        exact ⟨ret_bool (by rw [← H.out]; simp [mayB]; omega), rfl⟩
      · by_cases h3 : 57343 < c
        all_goals
          go_enter Try.func27, Try.ntmps27
          go_wp2
          go_ret
          exact ⟨ret_bool (by rw [← H.out]; simp [mayB]; omega), rfl⟩
    · go_enter Try.func27, Try.ntmps27
      go_wp2
      go_ret
      exact ⟨ret_bool (by rw [← H.out]; simp [mayB]; omega), rfl⟩
  · go_enter Try.func27, Try.ntmps27
    go_wp2
    go_ret
    exact ⟨ret_bool (by rw [← H.out]; simp [mayB]; omega), rfl⟩

set_option maxHeartbeats 400000 in
theorem good_any (n : Int) (w : World) (h0 : -9223372036854775808 ≤ n) (h1 : n ≤ 9223372036854775807) :
    Calls Try.prog 10 #[.int .i64 n] w fun e w' => e = .returned (.int .i64 (goodI n)) ∧ w = w' := by
  obtain ⟨r, hr⟩ : ∃ r, aroundI n 1114112 = r := ⟨_, rfl⟩
  have hbd := aroundI_bd n 1114112 (by omega)
  obtain ⟨hb0, hb1⟩ := hbd
  rw [hr] at hb0 hb1
  have HR := Lib.hid hr
  clear hr
  obtain ⟨g, hg⟩ : ∃ g, goodI n = g := ⟨_, rfl⟩
  have HG := Lib.hid hg
  rw [hg]; clear hg
  have hc := around_any n 1114112
  obtain ⟨b, hb⟩ : ∃ b, mayB r = b := ⟨_, rfl⟩
  have HB := Lib.hid hb
  clear hb
  cases b with
  | true =>
    go_enter Try.func10, Try.ntmps10
    go_wp2_with (first
      | (go_at_call 13; refine (around_any n 1114112 _ h0 h1 (by omega) (by omega)).mono ?_; rintro e w' ⟨rfl, rfl⟩; rw [HR.out])
      | (go_at_call 26; refine (may_any _ _).mono ?_; rintro e w' ⟨rfl, rfl⟩; rw [HB.out]))
    go_ret
    exact ⟨ret_int (by rw [← HG.out, goodI, HR.out, HB.out]; simp), rfl⟩
  | false =>
    go_enter Try.func10, Try.ntmps10
    go_wp2_with (first
      | (go_at_call 13; refine (around_any n 1114112 _ h0 h1 (by omega) (by omega)).mono ?_; rintro e w' ⟨rfl, rfl⟩; rw [HR.out])
      | (go_at_call 26; refine (may_any _ _).mono ?_; rintro e w' ⟨rfl, rfl⟩; rw [HB.out]))
    go_ret
    exact ⟨ret_int (by rw [← HG.out, goodI, HR.out, HB.out]; simp), rfl⟩

end Go.Proofs.Ytilblnolfcbdlaa
