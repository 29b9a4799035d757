/-
  Plain: a text's characters, over its list of bytes; of what is joined.
-/
import Derived.Test.YtaocnnebfnlgiaaDoorRef3
namespace Go.Proofs.YtaocnnebfnlgiaaDoor
open Go.Lib

def charsLF : Nat → List UInt8 → List Int
  | 0, _ => []
  | f + 1, l => if l = [] then [] else ((decodeL l).1 : Int) :: charsLF f (l.drop (decodeL l).2)
def charsL (l : List UInt8) : List Int := charsLF l.length l

theorem drop_nil_iff (s : ByteArray) (pos : Nat) : s.data.toList.drop pos = [] ↔ ¬ pos < s.size := by
  rw [List.drop_eq_nil_iff]
  simp
theorem charsFrom_L (s : ByteArray) : ∀ f pos, charsFrom s f pos = charsLF f (s.data.toList.drop pos)
  | 0, _ => rfl
  | f + 1, pos => by
    by_cases h : pos < s.size
    · have hne : ¬ s.data.toList.drop pos = [] := fun e => ((drop_nil_iff s pos).1 e) h
      rw [charsFrom_step s f pos h, charsFrom_L s f]
      show _ = if s.data.toList.drop pos = [] then [] else _
      rw [if_neg hne, decodeL_drop, List.drop_drop]
    · rw [charsFrom_end s _ _ h]
      show _ = if s.data.toList.drop pos = [] then [] else _
      rw [if_pos ((drop_nil_iff s pos).2 h)]
theorem charsLF_nil : ∀ f, charsLF f [] = []
  | 0 => rfl
  | _ + 1 => rfl
theorem charsLF_step (f : Nat) (l : List UInt8) (h : l ≠ []) : charsLF (f + 1) l = ((decodeL l).1 : Int) :: charsLF f (l.drop (decodeL l).2) := by
  show (if l = [] then [] else _) = _
  rw [if_neg h]
theorem charsLF_fuel : ∀ (f g : Nat) (l : List UInt8), l.length ≤ f → l.length ≤ g → charsLF f l = charsLF g l
  | 0, g, l, hf, _ => by
    have : l = [] := List.eq_nil_of_length_eq_zero (by omega)
    subst this
    rw [charsLF_nil, charsLF_nil]
  | f + 1, 0, l, _, hg => by
    have : l = [] := List.eq_nil_of_length_eq_zero (by omega)
    subst this
    rw [charsLF_nil, charsLF_nil]
  | f + 1, g + 1, l, hf, hg => by
    by_cases h : l = []
    · subst h; rw [charsLF_nil, charsLF_nil]
    · have hw := decode_ge1 l
      rw [charsLF_step f l h, charsLF_step g l h, charsLF_fuel f g _ (by rw [List.length_drop]; omega) (by rw [List.length_drop]; omega)]
theorem charsL_nil : charsL [] = [] := rfl
theorem charsL_step (l : List UInt8) (h : l ≠ []) : charsL l = ((decodeL l).1 : Int) :: charsL (l.drop (decodeL l).2) := by
  have hw := decode_ge1 l
  have hl : 0 < l.length := List.length_pos_iff.2 h
  obtain ⟨n, hn⟩ : ∃ n, l.length = n + 1 := ⟨l.length - 1, by omega⟩
  unfold charsL
  rw [hn, charsLF_step n l h, charsLF_fuel n (l.drop (decodeL l).2).length _ (by rw [List.length_drop]; omega) (Nat.le_refl _)]
theorem chars_L (s : ByteArray) : chars s = charsL s.data.toList := by
  unfold chars charsL
  rw [charsFrom_L]
  rw [List.drop_zero]
  simp

theorem enc_ne (c : Int) (t : List UInt8) : encodeRune c ++ t ≠ [] := by
  have := enc_len c
  intro e
  have h := congrArg List.length e
  rw [List.length_append] at h
  simp only [List.length_nil] at h
  omega
theorem charsL_enc (c : Int) (h : mayB c = true) (t : List UInt8) : charsL (encodeRune c ++ t) = c :: charsL t := by
  have h0 := ((mayB_iff c).1 h).1
  rw [charsL_step _ (enc_ne c t), decode_enc c h t]
  simp only [List.drop_left]
  rw [show ((c.toNat : Nat) : Int) = c by omega]

theorem goodD_enc (c : Int) (h : mayB c = true) : goodD (c.toNat, (encodeRune c).length) = true := by
  cases hg : goodD (c.toNat, (encodeRune c).length) with
  | true => rfl
  | false =>
    obtain ⟨a, b⟩ := goodD_false _ hg
    simp only at a b
    have h0 := ((mayB_iff c).1 h).1
    have hc : c = 65533 := by omega
    rw [hc] at b
    exact absurd b (by decide)
theorem validD_enc (c : Int) (h : mayB c = true) (t : List UInt8) : validD (encodeRune c ++ t) = validD t := by
  rw [validD_step _ (enc_ne c t), decode_enc c h t, if_neg (goodD_true _ (goodD_enc c h))]
  simp only [List.drop_left]

theorem charsL_may : ∀ (n : Nat) (l : List UInt8), l.length ≤ n → ∀ c ∈ charsL l, mayB c = true
  | n, l, hn, c, hc => by
    by_cases h : l = []
    · subst h; rw [charsL_nil] at hc; cases hc
    · rw [charsL_step l h] at hc
      rcases List.mem_cons.1 hc with rfl | hc
      · exact decode_may l
      · have hw := decode_ge1 l
        have hl : 0 < l.length := List.length_pos_iff.2 h
        match n with
        | 0 => omega
        | n + 1 => exact charsL_may n _ (by rw [List.length_drop]; omega) c hc


end Go.Proofs.YtaocnnebfnlgiaaDoor
