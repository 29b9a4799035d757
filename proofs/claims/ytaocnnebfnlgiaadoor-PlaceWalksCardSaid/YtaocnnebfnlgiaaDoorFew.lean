/-
  The contract of Few.
-/
import Derived.Test.YtaocnnebfnlgiaaDoorRef2
namespace Go.Proofs.YtaocnnebfnlgiaaDoor
open Go.RowKit

/-- The first so many bytes. -/
def fewS (s : ByteArray) (m : Nat) : ByteArray := if m < s.size then s.extract 0 m else s
theorem fewS_size (s : ByteArray) (m : Nat) : (fewS s m).size ≤ m ∨ (fewS s m).size ≤ m := by
  left
  unfold fewS
  split
  · rw [size_pre s m (by omega)]; exact Nat.le_refl _
  · omega
theorem fewS_le (s : ByteArray) (m : Nat) : (fewS s m).size ≤ m := by
  rcases fewS_size s m with h | h <;> exact h

set_option maxHeartbeats 400000 in
theorem few_any (s : ByteArray) (m : Nat) (w : World) (_ : s.size ≤ 9223372036854775807) (hm : m ≤ 1000) :
    Calls Tryd.prog 9 #[.string s, .int .i64 (m : Int)] w fun e w' => e = .returned (.string (fewS s m)) ∧ w = w' := by
  by_cases h : m < s.size
  · have HF : Hid (fewS s m = s.extract 0 m) := by show _ = _; unfold fewS; rw [if_pos h]
    go_enter Tryd.func9, Tryd.ntmps9
    go_wp2
    go_ret
    exact ⟨ret_str (by rw [HF.out]), rfl⟩
  · have HF : Hid (fewS s m = s) := by show _ = _; unfold fewS; rw [if_neg h]
    go_enter Tryd.func9, Tryd.ntmps9
    go_wp2
    go_ret
    exact ⟨ret_str (by rw [HF.out]), rfl⟩

end Go.Proofs.YtaocnnebfnlgiaaDoor
