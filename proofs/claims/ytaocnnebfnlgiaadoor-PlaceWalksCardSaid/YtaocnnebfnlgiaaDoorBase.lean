/-
  Contracts of the small number functions: Around, May, Good of the first reference, utf.May.
-/
import Derived.Test.YtaocnnebfnlgiaaDoorRows
import Derived.Test.YtaocnnebfnlgiaaDoorMem
import Derived.WalkKit
import Derived.WalkSpells
import Derived.WalkLawsBesides
import Derived.Lib.Hide
import Derived.Deep.QuietTactic
import Derived.BigQuiet
namespace Go.Proofs.YtaocnnebfnlgiaaDoor
open Go.RowKit

/-- Around, plain. -/
def aroundI (n m : Int) : Int := (if n < 0 then -(n + 1) else n) % m
/-- May, plain. -/
def mayB (c : Int) : Bool := decide (0 ≤ c ∧ c ≤ 1114111 ∧ (c < 55296 ∨ 57343 < c))
def goodI (n : Int) : Int := if mayB (aroundI n 1114112) = true then aroundI n 1114112 else aroundI n 1114112 + 2048

theorem aroundI_bd (n m : Int) (hm : 1 ≤ m) : 0 ≤ aroundI n m ∧ aroundI n m < m := by
  unfold aroundI
  exact ⟨Int.emod_nonneg _ (by omega), Int.emod_lt_of_pos _ (by omega)⟩


set_option maxHeartbeats 400000 in
theorem may_any (c : Int) (w : World) :
    Calls Tryd.prog 49 #[.int .i64 c] w fun e w' => e = .returned (.bool (mayB c)) ∧ w = w' := by
  obtain ⟨b, hb⟩ : ∃ b, mayB c = b := ⟨_, rfl⟩
  have H := Lib.hid hb
  rw [hb]; clear hb
  by_cases h0 : 0 ≤ c
  · by_cases h1 : c ≤ 1114111
    · by_cases h2 : c < 55296
      · go_enter Tryd.func49, Tryd.ntmps49
        go_wp2
        go_ret
        exact ⟨ret_bool (by rw [← H.out]; simp [mayB]; omega), rfl⟩
      · by_cases h3 : 57343 < c
        all_goals
          go_enter Tryd.func49, Tryd.ntmps49
          go_wp2
          go_ret
          exact ⟨ret_bool (by rw [← H.out]; simp [mayB]; omega), rfl⟩
    · go_enter Tryd.func49, Tryd.ntmps49
      go_wp2
      go_ret
      exact ⟨ret_bool (by rw [← H.out]; simp [mayB]; omega), rfl⟩
  · go_enter Tryd.func49, Tryd.ntmps49
    go_wp2
    go_ret
    exact ⟨ret_bool (by rw [← H.out]; simp [mayB]; omega), rfl⟩



end Go.Proofs.YtaocnnebfnlgiaaDoor
