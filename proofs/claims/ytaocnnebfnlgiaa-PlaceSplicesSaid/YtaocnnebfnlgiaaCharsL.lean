/-
  Plain: a text's characters, over its list of bytes; of what is joined.
-/
import Derived.Test.YtaocnnebfnlgiaaBuild
import Derived.Test.YtaocnnebfnlgiaaRef3
namespace Go.Proofs.Ytaocnnebfnlgiaa
open Go.Lib

def charsLF : Nat → List UInt8 → List Int
  | 0, _ => []
  | f + 1, l => if l = [] then [] else ((decodeL l).1 : Int) :: charsLF f (l.drop (decodeL l).2)
def charsL (l : List UInt8) : List Int := charsLF l.length l

theorem drop_nil_iff (s : ByteArray) (pos : Nat) : s.data.toList.drop pos = [] ↔ ¬ pos < s.size := by
  rw [List.drop_eq_nil_iff]
  simp
theorem charsFrom_L (s : ByteArray) : ∀ f pos, charsFrom s f pos = charsLF f (s.data.toList.drop pos)
  | 0, _ => rfl
  | f + 1, pos => by
    by_cases h : pos < s.size
    · have hne : ¬ s.data.toList.drop pos = [] := fun e => ((drop_nil_iff s pos).1 e) h
      rw [charsFrom_step s f pos h, charsFrom_L s f]
      show _ = if s.data.toList.drop pos = [] then [] else _
      rw [if_neg hne, decodeL_drop, List.drop_drop]
    · rw [charsFrom_end s _ _ h]
      show _ = if s.data.toList.drop pos = [] then [] else _
      rw [if_pos ((drop_nil_iff s pos).2 h)]
theorem charsLF_nil : ∀ f, charsLF f [] = []
  | 0 => rfl
  | _ + 1 => rfl
theorem charsLF_step (f : Nat) (l : List UInt8) (h : l ≠ []) : charsLF (f + 1) l = ((decodeL l).1 : Int) :: charsLF f (l.drop (decodeL l).2) := by
  show (if l = [] then [] else _) = _
  rw [if_neg h]
theorem charsLF_fuel : ∀ (f g : Nat) (l : List UInt8), l.length ≤ f → l.length ≤ g → charsLF f l = charsLF g l
  | 0, g, l, hf, _ => by
    have : l = [] := List.eq_nil_of_length_eq_zero (by omega)
    subst this
    rw [charsLF_nil, charsLF_nil]
  | f + 1, 0, l, _, hg => by
    have : l = [] := List.eq_nil_of_length_eq_zero (by omega)
    subst this
    rw [charsLF_nil, charsLF_nil]
  | f + 1, g + 1, l, hf, hg => by
    by_cases h : l = []
    · subst h; rw [charsLF_nil, charsLF_nil]
    · have hw := decode_ge1 l
      rw [charsLF_step f l h, charsLF_step g l h, charsLF_fuel f g _ (by rw [List.length_drop]; omega) (by rw [List.length_drop]; omega)]
theorem charsL_nil : charsL [] = [] := rfl
theorem charsL_step (l : List UInt8) (h : l ≠ []) : charsL l = ((decodeL l).1 : Int) :: charsL (l.drop (decodeL l).2) := by
  have hw := decode_ge1 l
  have hl : 0 < l.length := List.length_pos_iff.2 h
  obtain ⟨n, hn⟩ : ∃ n, l.length = n + 1 := ⟨l.length - 1, by omega⟩
  unfold charsL
  rw [hn, charsLF_step n l h, charsLF_fuel n (l.drop (decodeL l).2).length _ (by rw [List.length_drop]; omega) (Nat.le_refl _)]
theorem chars_L (s : ByteArray) : chars s = charsL s.data.toList := by
  unfold chars charsL
  rw [charsFrom_L]
  rw [List.drop_zero]
  simp

theorem enc_ne (c : Int) (t : List UInt8) : encodeRune c ++ t ≠ [] := by
  have := enc_len c
  intro e
  have h := congrArg List.length e
  rw [List.length_append] at h
  simp only [List.length_nil] at h
  omega
theorem charsL_enc (c : Int) (h : mayB c = true) (t : List UInt8) : charsL (encodeRune c ++ t) = c :: charsL t := by
  have h0 := ((mayB_iff c).1 h).1
  rw [charsL_step _ (enc_ne c t), decode_enc c h t]
  simp only [List.drop_left]
  rw [show ((c.toNat : Nat) : Int) = c by omega]
theorem orSpoilt_may (c : Int) : mayB (orSpoilt c) = true := by
  unfold orSpoilt
  cases h : mayB c with
  | true => rw [if_pos rfl]; exact h
  | false => rw [if_neg (by simp)]; decide
theorem charsL_join : ∀ (l : List Int) (t : List UInt8), charsL (joinL l ++ t) = l.map orSpoilt ++ charsL t
  | [], t => rfl
  | c :: l, t => by
    have e : joinL (c :: l) = encodeRune (orSpoilt c) ++ joinL l := rfl
    rw [e, List.append_assoc, charsL_enc _ (orSpoilt_may c), charsL_join l t]
    rfl
theorem orSpoilt_id (c : Int) (h : mayB c = true) : orSpoilt c = c := by simp [orSpoilt, h]
theorem map_orSpoilt (l : List Int) (h : ∀ c ∈ l, mayB c = true) : l.map orSpoilt = l := by
  rw [List.map_congr_left (g := id) (fun c hc => orSpoilt_id c (h c hc)), List.map_id]

theorem goodD_enc (c : Int) (h : mayB c = true) : goodD (c.toNat, (encodeRune c).length) = true := by
  cases hg : goodD (c.toNat, (encodeRune c).length) with
  | true => rfl
  | false =>
    obtain ⟨a, b⟩ := goodD_false _ hg
    simp only at a b
    have h0 := ((mayB_iff c).1 h).1
    have hc : c = 65533 := by omega
    rw [hc] at b
    exact absurd b (by decide)
theorem validD_enc (c : Int) (h : mayB c = true) (t : List UInt8) : validD (encodeRune c ++ t) = validD t := by
  rw [validD_step _ (enc_ne c t), decode_enc c h t, if_neg (goodD_true _ (goodD_enc c h))]
  simp only [List.drop_left]
theorem validD_join : ∀ (l : List Int) (t : List UInt8), validD (joinL l ++ t) = validD t
  | [], t => rfl
  | c :: l, t => by
    have e : joinL (c :: l) = encodeRune (orSpoilt c) ++ joinL l := rfl
    rw [e, List.append_assoc, validD_enc _ (orSpoilt_may c), validD_join l t]
theorem validD_join0 (l : List Int) : validD (joinL l) = true := by
  have := validD_join l []
  rw [List.append_nil] at this
  rw [this]; rfl
theorem charsL_join0 (l : List Int) : charsL (joinL l) = l.map orSpoilt := by
  have := charsL_join l []
  rw [List.append_nil, charsL_nil, List.append_nil] at this
  exact this

theorem charsL_may : ∀ (n : Nat) (l : List UInt8), l.length ≤ n → ∀ c ∈ charsL l, mayB c = true
  | n, l, hn, c, hc => by
    by_cases h : l = []
    · subst h; rw [charsL_nil] at hc; cases hc
    · rw [charsL_step l h] at hc
      rcases List.mem_cons.1 hc with rfl | hc
      · exact decode_may l
      · have hw := decode_ge1 l
        have hl : 0 < l.length := List.length_pos_iff.2 h
        match n with
        | 0 => omega
        | n + 1 => exact charsL_may n _ (by rw [List.length_drop]; omega) c hc

/-- A text without spoilt bytes is what its characters are, joined. -/
theorem join_chars : ∀ (n : Nat) (l : List UInt8), l.length ≤ n → validD l = true → joinL (charsL l) = l
  | n, l, hn, hv => by
    by_cases h : l = []
    · subst h; rfl
    · rw [validD_step l h] at hv
      split at hv
      · cases hv
      · rename_i hg
        have hw := decode_ge1 l
        have hl : 0 < l.length := List.length_pos_iff.2 h
        have he := encode_decode l h hg
        match n with
        | 0 => omega
        | n + 1 =>
          have ih := join_chars n (l.drop (decodeL l).2) (by rw [List.length_drop]; omega) hv
          rw [charsL_step l h]
          have e : joinL (((decodeL l).1 : Int) :: charsL (l.drop (decodeL l).2)) = encodeRune (orSpoilt ((decodeL l).1 : Int)) ++ joinL (charsL (l.drop (decodeL l).2)) := rfl
          rw [e, ih, orSpoilt_id _ (decode_may l), he, List.take_append_drop]

end Go.Proofs.Ytaocnnebfnlgiaa
