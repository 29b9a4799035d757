/-
  Plain: what is decoded from a text's end is the last one of what is decoded from its beginning.
-/
import Derived.Test.YtilblnolfcbdlaaDoorUtf2
namespace Go.Proofs.YtilblnolfcbdlaaDoor
open Go.Lib

def bt (s : ByteArray) (i : Nat) : Nat := (s.data.toList.getD i 0).toNat
def wd (s : ByteArray) (i : Nat) : Nat := (Utf8.decode s i).2

theorem wd_shape (s : ByteArray) (p : Nat) : wd s p = 1 ∨ (2 ≤ wd s p ∧ wd s p ≤ 4 ∧ bt s p / 64 = 3 ∧ ∀ k, 1 ≤ k → k < wd s p → bt s (p + k) / 64 = 2) := by
  unfold wd bt
  rw [decode_N]
  rcases decodeN_shape (s.data.toList.length - p) (s.data.toList.getD p 0).toNat (s.data.toList.getD (p + 1) 0).toNat (s.data.toList.getD (p + 2) 0).toNat (s.data.toList.getD (p + 3) 0).toNat with ⟨_, h⟩ | ⟨h0, _, h1, _, h⟩ | ⟨h0, _, h1, h2, _, _, h⟩ | ⟨h0, _, h1, h2, h3, _, _, h⟩ | h
  · left; rw [h]
  · right; rw [h]
    refine ⟨by simp, by simp, by omega, fun k k1 k2 => ?_⟩
    simp only at k2
    obtain rfl : k = 1 := by omega
    exact h1
  · right; rw [h]
    refine ⟨by simp, by simp, by omega, fun k k1 k2 => ?_⟩
    simp only at k2
    rcases (show k = 1 ∨ k = 2 by omega) with rfl | rfl
    · exact h1
    · exact h2
  · right; rw [h]
    refine ⟨by simp, by simp, by omega, fun k k1 k2 => ?_⟩
    simp only at k2
    rcases (show k = 1 ∨ k = 2 ∨ k = 3 by omega) with rfl | rfl | rfl
    · exact h1
    · exact h2
    · exact h3
  · left; rw [h]

/-- No character of several bytes lies across this place. -/
def NoStr (s : ByteArray) (p : Nat) : Prop := ∀ st, st < p → 2 ≤ wd s st → st + wd s st ≤ p
theorem NoStr.zero (s : ByteArray) : NoStr s 0 := fun _ h => absurd h (by omega)
theorem NoStr.step {s : ByteArray} {p : Nat} (h : NoStr s p) : NoStr s (p + wd s p) := by
  intro st hst h2
  by_cases h1 : st < p
  · have := h st h1 h2; omega
  · by_cases h3 : st = p
    · subst h3; exact Nat.le_refl _
    · rcases wd_shape s p with hp | ⟨_, _, _, hp⟩
      · omega
      · have a := hp (st - p) (by omega) (by omega)
        rw [show p + (st - p) = st by omega] at a
        rcases wd_shape s st with hs | ⟨_, _, hs, _⟩
        · omega
        · omega

theorem runeStart_bt (s : ByteArray) (i : Nat) : runeStartB (s.data.toList.getD i 0) = (bt s i / 64 != 2) := rfl

theorem lastStart_at (s : ByteArray) (p : Nat) (hw : wd s p = 2 ∨ wd s p = 3 ∨ wd s p = 4) (he : p + wd s p = s.data.toList.length) : lastStart s.data.toList = p := by
  rcases wd_shape s p with h | ⟨_, _, h0, hk⟩
  · omega
  · have r0 : runeStartB (s.data.toList.getD p 0) = true := by rw [runeStart_bt, h0]; rfl
    unfold lastStart
    simp only
    rcases hw with h | h | h
    · rw [h] at he
      rw [if_neg (by omega), show s.data.toList.length - 2 = p by omega, if_pos r0]
    · have r1 : runeStartB (s.data.toList.getD (p + 1) 0) = false := by rw [runeStart_bt, hk 1 (by omega) (by omega)]; rfl
      rw [h] at he
      rw [if_neg (by omega), show s.data.toList.length - 2 = p + 1 by omega, if_neg (by rw [r1]; simp), if_neg (by omega), show s.data.toList.length - 3 = p by omega, if_pos r0]
    · have r1 : runeStartB (s.data.toList.getD (p + 1) 0) = false := by rw [runeStart_bt, hk 1 (by omega) (by omega)]; rfl
      have r2 : runeStartB (s.data.toList.getD (p + 2) 0) = false := by rw [runeStart_bt, hk 2 (by omega) (by omega)]; rfl
      rw [h] at he
      rw [if_neg (by omega), show s.data.toList.length - 2 = p + 2 by omega, if_neg (by rw [r2]; simp), if_neg (by omega), show s.data.toList.length - 3 = p + 1 by omega, if_neg (by rw [r1]; simp), if_neg (by omega),
        if_pos (by rw [show s.data.toList.length - 4 = p by omega]; exact r0)]
      omega

theorem last_at (s : ByteArray) (p : Nat) (hn : NoStr s p) (hp : p < s.size) (he : p + wd s p = s.size) : decodeLastL s.data.toList = Utf8.decode s p := by
  have hl : s.data.toList.length = s.size := by simp
  have hne : s.data.toList ≠ [] := by intro e; rw [e] at hl; simp at hl; omega
  have hb : (s.data.toList.getD (s.data.toList.length - 1) 0).toNat = bt s (s.size - 1) := by rw [hl]; rfl
  rcases wd_shape s p with h1 | ⟨h2, h4, h0, hk⟩
  · have hpe : p = s.size - 1 := by omega
    unfold decodeLastL
    rw [if_neg hne]
    by_cases ha : bt s (s.size - 1) < 128
    · rw [if_pos (by rw [hb]; exact ha), hb, decode_N, decodeN_ascii _ _ _ _ _ (by rw [← hpe] at ha; exact ha), ← hpe]
      rfl
    · rw [if_neg (by rw [hb]; exact ha)]
      have hd : Utf8.decode s p = (65533, 1) := by
        rw [decode_N]
        exact decodeN_alone _ _ _ _ _ (by rw [← hpe] at ha; unfold bt at ha; omega) (.inl (by omega))
      rw [hd]
      simp only
      split
      · rename_i hst
        rw [decodeL_drop] at hst ⊢
        have hst' : lastStart s.data.toList + wd s (lastStart s.data.toList) = s.size := by rw [← hl]; exact hst
        rcases wd_shape s (lastStart s.data.toList) with g | ⟨g, _⟩
        · rw [show lastStart s.data.toList = p by omega]; exact hd
        · have := hn (lastStart s.data.toList) (by omega) g
          omega
      · rfl
  · have hst := lastStart_at s p (by omega) (by omega)
    have hlb : bt s (s.size - 1) / 64 = 2 := by
      have := hk (wd s p - 1) (by omega) (by omega)
      rw [show p + (wd s p - 1) = s.size - 1 by omega] at this
      exact this
    unfold decodeLastL
    rw [if_neg hne, if_neg (by rw [hb]; omega)]
    simp only
    rw [hst, decodeL_drop, if_pos (by rw [hl]; exact he)]

theorem last_of (s : ByteArray) : ∀ fuel pos, s.size ≤ pos + fuel → pos < s.size → NoStr s pos →
    ∃ p, NoStr s p ∧ p < s.size ∧ p + wd s p = s.size ∧ (charsFrom s fuel pos).getLast? = some ((Utf8.decode s p).1 : Int) ∧ (startsFrom s fuel pos).getLast? = some (p : Int)
  | 0, pos, hf, hp, _ => by omega
  | fuel + 1, pos, hf, hp, hn => by
    have hw := decode_width_pos s pos hp
    have hin := decode_in s pos hp
    rw [charsFrom_step s fuel pos hp, startsFrom_step s fuel pos hp]
    by_cases he : pos + (Utf8.decode s pos).2 < s.size
    · obtain ⟨p, h1, h2, h3, h4, h5⟩ := last_of s fuel (pos + (Utf8.decode s pos).2) (by omega) he hn.step
      refine ⟨p, h1, h2, h3, ?_, ?_⟩
      · rw [List.getLast?_cons, h4]; rfl
      · rw [List.getLast?_cons, h5]; rfl
    · refine ⟨pos, hn, hp, by unfold wd; omega, ?_, ?_⟩
      · rw [charsFrom_end s fuel _ he]; rfl
      · rw [startsFrom_end s fuel _ he]; rfl

/-- The last one of a text that has any. -/
theorem lastS_of (s : ByteArray) (h : 0 < s.size) : ∃ p c n : Nat, ∃ g : Bool, p < s.size ∧ p + n = s.size ∧ firstS (s.extract p s.size) = ((c : Int), (n : Int), g) ∧ lastS s = ((c : Int), (n : Int), g) ∧
    0 < (chars s).length ∧ (chars s)[(chars s).length - 1]? = some (c : Int) ∧ (starts s)[(chars s).length - 1]? = some (p : Int) ∧ c ≤ 1114111 := by
  obtain ⟨p, h1, h2, h3, h4, h5⟩ := last_of s s.size 0 (by omega) h (NoStr.zero s)
  have hw := decode_width_pos s p h2
  refine ⟨p, (Utf8.decode s p).1, (Utf8.decode s p).2, goodD (Utf8.decode s p), h2, h3, first_at s p h2, ?_, ?_, ?_, ?_, ?_⟩
  · unfold lastS
    rw [last_at s p h1 h2 h3]
    unfold toldP
    rw [if_neg (by omega)]
  · unfold chars
    rw [List.length_pos_iff]
    intro e
    rw [e] at h4
    simp at h4
  · rw [← List.getLast?_eq_getElem?]; exact h4
  · rw [chars_len]
    unfold starts
    have h6 : (starts0 s)[(starts0 s).length - 1]? = some (p : Int) := by rw [← List.getLast?_eq_getElem?]; exact h5
    have hlt := (List.getElem?_eq_some_iff.1 h6).1
    rw [List.getElem?_append_left hlt]
    exact h6
  · exact Lib.rune_le s p

end Go.Proofs.YtilblnolfcbdlaaDoor
