/-
  Plain Lean: greater characters have greater bytes, and no one's bytes begin another one's.
-/
import Derived.Test.YtilblnolfcbdlaaUtfP
import Derived.Test.YtilblnolfcbdlaaMem
import GoSem.Op.String
namespace Go.Proofs.Ytilblnolfcbdlaa
open Go.RowKit

theorem encZ_lt (x y : Int) (hx0 : 0 ≤ x) (hxs : x < 55296 ∨ 57343 < x) (hys : y < 55296 ∨ 57343 < y) (hy1 : y ≤ 1114111) (h : x < y) :
    ∃ (p u v : List Int) (a b : Int), Lib.encodeRuneZ x = p ++ a :: u ∧ Lib.encodeRuneZ y = p ++ b :: v ∧ 0 ≤ a ∧ a < b ∧ b < 256 := by
  have hx : x ≤ 127 ∨ (128 ≤ x ∧ x ≤ 2047) ∨ ((2048 ≤ x ∧ x < 55296) ∨ (57343 < x ∧ x ≤ 65535)) ∨ 65536 ≤ x := by omega
  have hy : y ≤ 127 ∨ (128 ≤ y ∧ y ≤ 2047) ∨ ((2048 ≤ y ∧ y < 55296) ∨ (57343 < y ∧ y ≤ 65535)) ∨ 65536 ≤ y := by omega
  rcases hx with hx | ⟨hx, hx'⟩ | hx | hx
  · rw [Lib.encodeRuneZ_one hx0 hx]
    rcases hy with hy | ⟨hy, hy'⟩ | hy | hy
    · rw [Lib.encodeRuneZ_one (by omega) hy]
      exact ⟨[], [], [], _, _, rfl, rfl, hx0, h, by omega⟩
    · rw [Lib.encodeRuneZ_two hy hy']
      exact ⟨[], [], _, _, _, rfl, rfl, hx0, by omega, by omega⟩
    · rw [Lib.encodeRuneZ_three hy]
      exact ⟨[], [], _, _, _, rfl, rfl, hx0, by omega, by omega⟩
    · rw [Lib.encodeRuneZ_four hy hy1]
      exact ⟨[], [], _, _, _, rfl, rfl, hx0, by omega, by omega⟩
  · rw [Lib.encodeRuneZ_two hx hx']
    rcases hy with hy | ⟨hy, hy'⟩ | hy | hy
    · omega
    · rw [Lib.encodeRuneZ_two hy hy']
      by_cases e : x / 64 = y / 64
      · rw [e]; exact ⟨[_], [], [], _, _, rfl, rfl, by omega, by omega, by omega⟩
      · exact ⟨[], _, _, _, _, rfl, rfl, by omega, by omega, by omega⟩
    · rw [Lib.encodeRuneZ_three hy]
      exact ⟨[], _, _, _, _, rfl, rfl, by omega, by omega, by omega⟩
    · rw [Lib.encodeRuneZ_four hy hy1]
      exact ⟨[], _, _, _, _, rfl, rfl, by omega, by omega, by omega⟩
  · rw [Lib.encodeRuneZ_three hx]
    rcases hy with hy | ⟨hy, hy'⟩ | hy | hy
    · omega
    · omega
    · rw [Lib.encodeRuneZ_three hy]
      by_cases e : x / 4096 = y / 4096
      · by_cases e2 : x / 64 % 64 = y / 64 % 64
        · rw [e, e2]; exact ⟨[_, _], [], [], _, _, rfl, rfl, by omega, by omega, by omega⟩
        · rw [e]; exact ⟨[_], _, _, _, _, rfl, rfl, by omega, by omega, by omega⟩
      · exact ⟨[], _, _, _, _, rfl, rfl, by omega, by omega, by omega⟩
    · rw [Lib.encodeRuneZ_four hy hy1]
      exact ⟨[], _, _, _, _, rfl, rfl, by omega, by omega, by omega⟩
  · rw [Lib.encodeRuneZ_four hx (by omega)]
    rcases hy with hy | ⟨hy, hy'⟩ | hy | hy
    · omega
    · omega
    · omega
    · rw [Lib.encodeRuneZ_four hy hy1]
      by_cases e : x / 262144 = y / 262144
      · by_cases e2 : x / 4096 % 64 = y / 4096 % 64
        · by_cases e3 : x / 64 % 64 = y / 64 % 64
          · rw [e, e2, e3]; exact ⟨[_, _, _], [], [], _, _, rfl, rfl, by omega, by omega, by omega⟩
          · rw [e, e2]; exact ⟨[_, _], _, _, _, _, rfl, rfl, by omega, by omega, by omega⟩
        · rw [e]; exact ⟨[_], _, _, _, _, rfl, rfl, by omega, by omega, by omega⟩
      · exact ⟨[], _, _, _, _, rfl, rfl, by omega, by omega, by omega⟩

theorem u8_lt (a b : Int) (h0 : 0 ≤ a) (h : a < b) (h1 : b < 256) : a.toNat.toUInt8 < b.toNat.toUInt8 := by
  rw [UInt8.lt_iff_toNat_lt, UInt8.toNat_ofNat', UInt8.toNat_ofNat', Nat.mod_eq_of_lt (by omega), Nat.mod_eq_of_lt (by omega)]
  omega

/-- Two lists that part at a place where the first one's byte is less. -/
def Parts (s t : List UInt8) : Prop := ∃ (p u v : List UInt8) (a b : UInt8), s = p ++ a :: u ∧ t = p ++ b :: v ∧ a < b

theorem enc_parts (x y : Int) (hx0 : 0 ≤ x) (hxs : x < 55296 ∨ 57343 < x) (hys : y < 55296 ∨ 57343 < y) (hy1 : y ≤ 1114111) (h : x < y) : Parts (Lib.encodeRune x) (Lib.encodeRune y) := by
  obtain ⟨p, u, v, a, b, e1, e2, h0, h1, h2⟩ := encZ_lt x y hx0 hxs hys hy1 h
  refine ⟨p.map fun x => x.toNat.toUInt8, u.map fun x => x.toNat.toUInt8, v.map fun x => x.toNat.toUInt8, _, _, ?_, ?_, u8_lt a b h0 h1 h2⟩
  · unfold Lib.encodeRune; rw [e1]; simp
  · unfold Lib.encodeRune; rw [e2]; simp

theorem less_pre (p : List UInt8) (s t : List UInt8) : Op.bytesLess (p ++ s) (p ++ t) = Op.bytesLess s t := by
  induction p with
  | nil => rfl
  | cons c p ih =>
    have hc : ¬ c < c := by rw [UInt8.lt_iff_toNat_lt]; omega
    simp [Op.bytesLess, ih, hc]

theorem Parts.less {s t : List UInt8} (h : Parts s t) : Op.bytesLess s t = true := by
  obtain ⟨p, u, v, a, b, rfl, rfl, hab⟩ := h
  rw [less_pre]; simp [Op.bytesLess, hab]
theorem Parts.notLess {s t : List UInt8} (h : Parts s t) : Op.bytesLess t s = false := by
  obtain ⟨p, u, v, a, b, rfl, rfl, hab⟩ := h
  have h1 : ¬ b < a := by rw [UInt8.lt_iff_toNat_lt] at *; omega
  have h2 : ¬ b = a := by rintro rfl; rw [UInt8.lt_iff_toNat_lt] at *; omega
  rw [less_pre]; simp [Op.bytesLess, h1, h2]
theorem Parts.ne {s t : List UInt8} (h : Parts s t) : s ≠ t := by
  obtain ⟨p, u, v, a, b, rfl, rfl, hab⟩ := h
  intro e
  have := List.append_cancel_left e
  injection this with e1 _
  subst e1
  rw [UInt8.lt_iff_toNat_lt] at hab; omega
theorem Parts.pre {s t : List UInt8} (h : Parts s t) : t.take s.length ≠ s := by
  obtain ⟨p, u, v, a, b, rfl, rfl, hab⟩ := h
  intro e
  rw [List.take_append, List.take_of_length_le (by simp)] at e
  have := List.append_cancel_left e
  have h2 : (p ++ a :: u).length - p.length = u.length + 1 := by simp
  rw [h2, List.take_succ_cons] at this
  injection this with e1 _
  subst e1
  rw [UInt8.lt_iff_toNat_lt] at hab; omega
theorem Parts.pre2 {s t : List UInt8} (h : Parts s t) : s.take t.length ≠ t := by
  obtain ⟨p, u, v, a, b, rfl, rfl, hab⟩ := h
  intro e
  rw [List.take_append, List.take_of_length_le (by simp)] at e
  have := List.append_cancel_left e
  have h2 : (p ++ b :: v).length - p.length = v.length + 1 := by simp
  rw [h2, List.take_succ_cons] at this
  injection this with e1 _
  subst e1
  rw [UInt8.lt_iff_toNat_lt] at hab; omega

end Go.Proofs.Ytilblnolfcbdlaa
