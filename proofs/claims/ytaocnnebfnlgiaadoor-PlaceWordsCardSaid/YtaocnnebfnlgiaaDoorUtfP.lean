/-
  Plain Lean: a text's characters and where they begin, over the model's own decoder.
-/
import Derived.Lib.TrimUEq
import Derived.Lib.MapLaws
import Derived.Lib.ValidLaws
import Derived.Lib.RuneBytes
import Derived.Lib.RuneCount
namespace Go.Proofs.YtaocnnebfnlgiaaDoor

def charsFrom (s : ByteArray) : Nat → Nat → List Int
  | 0, _ => []
  | fuel + 1, pos => if pos < s.size then ((Utf8.decode s pos).1 : Int) :: charsFrom s fuel (pos + (Utf8.decode s pos).2) else []
def chars (s : ByteArray) : List Int := charsFrom s s.size 0
def startsFrom (s : ByteArray) : Nat → Nat → List Int
  | 0, _ => []
  | fuel + 1, pos => if pos < s.size then (pos : Int) :: startsFrom s fuel (pos + (Utf8.decode s pos).2) else []
def starts0 (s : ByteArray) : List Int := startsFrom s s.size 0
def starts (s : ByteArray) : List Int := starts0 s ++ [(s.size : Int)]

theorem charsFrom_end (s : ByteArray) (fuel pos : Nat) (h : ¬ pos < s.size) : charsFrom s fuel pos = [] := by
  cases fuel <;> simp [charsFrom, h]
theorem startsFrom_end (s : ByteArray) (fuel pos : Nat) (h : ¬ pos < s.size) : startsFrom s fuel pos = [] := by
  cases fuel <;> simp [startsFrom, h]
theorem charsFrom_step (s : ByteArray) (fuel pos : Nat) (h : pos < s.size) : charsFrom s (fuel + 1) pos = ((Utf8.decode s pos).1 : Int) :: charsFrom s fuel (pos + (Utf8.decode s pos).2) := by
  simp [charsFrom, h]
theorem startsFrom_step (s : ByteArray) (fuel pos : Nat) (h : pos < s.size) : startsFrom s (fuel + 1) pos = (pos : Int) :: startsFrom s fuel (pos + (Utf8.decode s pos).2) := by
  simp [startsFrom, h]
theorem charsFrom_len (s : ByteArray) : ∀ fuel pos, (charsFrom s fuel pos).length = (startsFrom s fuel pos).length
  | 0, _ => rfl
  | f + 1, pos => by
    unfold charsFrom startsFrom
    split
    · simp [charsFrom_len s f]
    · rfl
theorem chars_len (s : ByteArray) : (chars s).length = (starts0 s).length := charsFrom_len s _ _
theorem charsFrom_len_le (s : ByteArray) : ∀ fuel pos, (charsFrom s fuel pos).length ≤ fuel
  | 0, _ => Nat.zero_le _
  | f + 1, pos => by
    unfold charsFrom
    split
    · simp; exact charsFrom_len_le s f _
    · simp
theorem chars_len_le (s : ByteArray) : (chars s).length ≤ s.size := charsFrom_len_le s _ _

/-- The bytes of a character, of no character none. -/
def encS (c : Int) (may : Bool) : ByteArray := if may = true then ⟨(Lib.encodeRune c).toArray⟩ else ⟨#[]⟩

end Go.Proofs.YtaocnnebfnlgiaaDoor
