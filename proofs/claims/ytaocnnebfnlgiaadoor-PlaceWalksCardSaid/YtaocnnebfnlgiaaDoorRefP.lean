/-
  Plain: the first reference's Encode, value and First, over lists of bytes: they are the model's decoder.
-/
import Derived.Test.YtaocnnebfnlgiaaDoorBase
import Derived.Test.YtaocnnebfnlgiaaDoorUtfP
namespace Go.Proofs.YtaocnnebfnlgiaaDoor
open Go.Lib

def refEnc (c : Int) : List UInt8 := if mayB c = true then encodeRune c else []
theorem encS_ref (c : Int) : encS c (mayB c) = ⟨(refEnc c).toArray⟩ := by
  unfold encS refEnc
  split <;> rfl

theorem mayB_iff (c : Int) : mayB c = true ↔ 0 ≤ c ∧ c ≤ 1114111 ∧ (c < 55296 ∨ 57343 < c) := by simp [mayB]

theorem byteZ (z : Int) (h0 : 0 ≤ z) (h1 : z < 256) : ((z.toNat.toUInt8).toNat : Int) = z := by
  simp [UInt8.toNat_ofNat']
  omega
theorem byteN (z : Int) (h0 : 0 ≤ z) (h1 : z < 256) : (z.toNat.toUInt8).toNat = z.toNat := by
  have := byteZ z h0 h1
  omega

theorem enc_cases (c : Int) (h : mayB c = true) :
    (0 ≤ c ∧ c ≤ 127 ∧ encodeRune c = [c.toNat.toUInt8]) ∨
    (128 ≤ c ∧ c ≤ 2047 ∧ encodeRune c = [(192 + c / 64).toNat.toUInt8, (128 + c % 64).toNat.toUInt8]) ∨
    (2048 ≤ c ∧ c ≤ 65535 ∧ (c < 55296 ∨ 57343 < c) ∧ encodeRune c = [(224 + c / 4096).toNat.toUInt8, (128 + c / 64 % 64).toNat.toUInt8, (128 + c % 64).toNat.toUInt8]) ∨
    (65536 ≤ c ∧ c ≤ 1114111 ∧ encodeRune c = [(240 + c / 262144).toNat.toUInt8, (128 + c / 4096 % 64).toNat.toUInt8, (128 + c / 64 % 64).toNat.toUInt8, (128 + c % 64).toNat.toUInt8]) := by
  rw [mayB_iff] at h
  obtain ⟨h0, h1, h2⟩ := h
  by_cases a : c ≤ 127
  · exact .inl ⟨h0, a, by rw [encodeRune, encodeRuneZ_one h0 a]; rfl⟩
  · by_cases b : c ≤ 2047
    · exact .inr (.inl ⟨by omega, b, by rw [encodeRune, encodeRuneZ_two (by omega) b]; rfl⟩)
    · by_cases d : c ≤ 65535
      · exact .inr (.inr (.inl ⟨by omega, d, h2, by rw [encodeRune, encodeRuneZ_three (by omega)]; rfl⟩))
      · exact .inr (.inr (.inr ⟨by omega, h1, by rw [encodeRune, encodeRuneZ_four (by omega) h1]; rfl⟩))

/-- A character's bytes are decoded as it. -/
theorem decode_enc (c : Int) (h : mayB c = true) (t : List UInt8) : decodeL (encodeRune c ++ t) = (c.toNat, (encodeRune c).length) := by
  rcases enc_cases c h with ⟨h0, h1, e⟩ | ⟨h0, h1, e⟩ | ⟨h0, h1, h2, e⟩ | ⟨h0, h1, e⟩
  · have b0 := byteN c h0 (by omega)
    rw [e, decodeL_N]
    simp only [List.cons_append, List.nil_append, List.getD_cons_zero, List.length_cons, List.length_nil, b0]
    rw [decodeN_ascii _ _ _ _ _ (by omega)]
  · have b0 := byteN (192 + c / 64) (by omega) (by omega)
    have b1 := byteN (128 + c % 64) (by omega) (by omega)
    rw [e, decodeL_N]
    simp only [List.cons_append, List.nil_append, List.getD_cons_zero, List.getD_cons_succ, List.length_cons, List.length_nil, b0, b1]
    unfold decodeN
    rw [if_neg (by omega), if_pos (by omega), if_pos (by omega)]
    apply Prod.ext <;> simp only <;> omega
  · have b0 := byteN (224 + c / 4096) (by omega) (by omega)
    have b1 := byteN (128 + c / 64 % 64) (by omega) (by omega)
    have b2 := byteN (128 + c % 64) (by omega) (by omega)
    rw [e, decodeL_N]
    simp only [List.cons_append, List.nil_append, List.getD_cons_zero, List.getD_cons_succ, List.length_cons, List.length_nil, b0, b1, b2]
    unfold decodeN
    rw [if_neg (by omega), if_neg (by omega), if_pos (by omega), if_pos (by omega)]
    apply Prod.ext <;> simp only <;> omega
  · have b0 := byteN (240 + c / 262144) (by omega) (by omega)
    have b1 := byteN (128 + c / 4096 % 64) (by omega) (by omega)
    have b2 := byteN (128 + c / 64 % 64) (by omega) (by omega)
    have b3 := byteN (128 + c % 64) (by omega) (by omega)
    rw [e, decodeL_N]
    simp only [List.cons_append, List.nil_append, List.getD_cons_zero, List.getD_cons_succ, List.length_cons, List.length_nil, b0, b1, b2, b3]
    unfold decodeN
    rw [if_neg (by omega), if_neg (by omega), if_neg (by omega), if_pos (by omega), if_pos (by omega)]
    apply Prod.ext <;> simp only <;> omega

theorem enc_len (c : Int) : 1 ≤ (encodeRune c).length ∧ (encodeRune c).length ≤ 4 := by
  have := encodeRuneZ_length c
  simpa [encodeRune] using this

/-- What bytes are worth. -/
def off (n : Nat) : Int := if n = 2 then 192 else if n = 3 then 224 else if n = 4 then 240 else 0
def valueL (l : List UInt8) : Int := (l.drop 1).foldl (fun c b => c * 64 + (b.toNat : Int) - 128) (((l.getD 0 0).toNat : Int) - off l.length)

theorem value_enc (c : Int) (h : mayB c = true) : valueL (encodeRune c) = c := by
  rcases enc_cases c h with ⟨h0, h1, e⟩ | ⟨h0, h1, e⟩ | ⟨h0, h1, h2, e⟩ | ⟨h0, h1, e⟩
  · have b0 := byteZ c h0 (by omega)
    rw [e]; simp only [valueL, off, List.drop, List.foldl, List.getD_cons_zero, List.length_cons, List.length_nil, b0]
    simp
  · have b0 := byteZ (192 + c / 64) (by omega) (by omega)
    have b1 := byteZ (128 + c % 64) (by omega) (by omega)
    rw [e]; simp only [valueL, off, List.drop, List.foldl, List.getD_cons_zero, List.length_cons, List.length_nil, b0, b1]
    simp; omega
  · have b0 := byteZ (224 + c / 4096) (by omega) (by omega)
    have b1 := byteZ (128 + c / 64 % 64) (by omega) (by omega)
    have b2 := byteZ (128 + c % 64) (by omega) (by omega)
    rw [e]; simp only [valueL, off, List.drop, List.foldl, List.getD_cons_zero, List.length_cons, List.length_nil, b0, b1, b2]
    simp; omega
  · have b0 := byteZ (240 + c / 262144) (by omega) (by omega)
    have b1 := byteZ (128 + c / 4096 % 64) (by omega) (by omega)
    have b2 := byteZ (128 + c / 64 % 64) (by omega) (by omega)
    have b3 := byteZ (128 + c % 64) (by omega) (by omega)
    rw [e]; simp only [valueL, off, List.drop, List.foldl, List.getD_cons_zero, List.length_cons, List.length_nil, b0, b1, b2, b3]
    simp; omega

theorem decodeN_may (n b0 b1 b2 b3 : Nat) (h0 : b0 < 256) : mayB ((decodeN n b0 b1 b2 b3).1 : Int) = true := by
  rw [mayB_iff]
  unfold decodeN
  repeat' split
  all_goals (simp only; omega)
theorem decode_may (l : List UInt8) : mayB ((decodeL l).1 : Int) = true := by rw [decodeL_N]; exact decodeN_may _ _ _ _ _ (UInt8.toNat_lt _)
theorem decodeN_le4 (n b0 b1 b2 b3 : Nat) : (decodeN n b0 b1 b2 b3).2 ≤ 4 := by
  unfold decodeN
  repeat' split
  all_goals simp
theorem decode_ge1 (l : List UInt8) : 1 ≤ (decodeL l).2 := by rw [decodeL_N]; exact decodeN_ge1 _ _ _ _ _
theorem decode_le4 (l : List UInt8) : (decodeL l).2 ≤ 4 := by rw [decodeL_N]; exact decodeN_le4 _ _ _ _ _

/-- Is what was decoded a character, and no spoilt byte? -/
def goodD (d : Nat × Nat) : Bool := !(d.1 == 65533 && d.2 == 1)
theorem goodD_false (d : Nat × Nat) (h : goodD d = false) : d.1 = 65533 ∧ d.2 = 1 := by simpa [goodD] using h
theorem goodD_true (d : Nat × Nat) (h : goodD d = true) : ¬ (d.1 = 65533 ∧ d.2 = 1) := by
  rintro ⟨a, b⟩; simp [goodD, a, b] at h

theorem try_yes (l : List UInt8) (n : Nat) (h1 : 1 ≤ n) (hl : n ≤ l.length) (h : refEnc (valueL (l.take n)) = l.take n) :
    (decodeL l).1 = (valueL (l.take n)).toNat ∧ 0 ≤ valueL (l.take n) ∧ (decodeL l).2 = n ∧ goodD (decodeL l) = true := by
  have hlen : (l.take n).length = n := by simp; omega
  have hm : mayB (valueL (l.take n)) = true := by
    cases hb : mayB (valueL (l.take n)) with
    | true => rfl
    | false =>
      have e : refEnc (valueL (l.take n)) = [] := by simp [refEnc, hb]
      rw [e] at h
      rw [← h] at hlen
      simp at hlen
      omega
  have he : encodeRune (valueL (l.take n)) = l.take n := by
    have e : refEnc (valueL (l.take n)) = encodeRune (valueL (l.take n)) := by simp [refEnc, hm]
    rw [← e]; exact h
  have hd := decode_enc (valueL (l.take n)) hm (l.drop n)
  rw [he, List.take_append_drop, hlen] at hd
  refine ⟨by rw [hd], ((mayB_iff _).1 hm).1, by rw [hd], ?_⟩
  rw [hd]
  cases hg : goodD ((valueL (l.take n)).toNat, n) with
  | true => rfl
  | false =>
    obtain ⟨a, b⟩ := goodD_false _ hg
    simp only at a b
    have hv : valueL (l.take n) = 65533 := by omega
    rw [hv] at he
    have : (encodeRune 65533).length = 1 := by rw [he, hlen, b]
    revert this
    decide

theorem try_no (l : List UInt8) (hne : l ≠ []) (hg : goodD (decodeL l) = true) : refEnc (valueL (l.take (decodeL l).2)) = l.take (decodeL l).2 ∧ valueL (l.take (decodeL l).2) = ((decodeL l).1 : Int) := by
  have he := encode_decode l hne (goodD_true _ hg)
  have hm := decode_may l
  rw [← he, value_enc _ hm]
  exact ⟨by simp [refEnc, hm], rfl⟩

/-- The bytes that a character may have, tried from n on. -/
def firstFrom (l : List UInt8) : Nat → Nat → Int × Int × Bool
  | 0, _ => (65533, 1, false)
  | f + 1, n => if n ≤ 4 ∧ n ≤ l.length then (if refEnc (valueL (l.take n)) = l.take n then (valueL (l.take n), (n : Int), true) else firstFrom l f (n + 1)) else (65533, 1, false)
def firstD (l : List UInt8) : Int × Int × Bool := (((decodeL l).1 : Int), ((decodeL l).2 : Int), goodD (decodeL l))

theorem firstFrom_eq (l : List UInt8) (hne : l ≠ []) : ∀ (f n : Nat), 1 ≤ n → n ≤ 5 → 5 ≤ f + n → (goodD (decodeL l) = true → n ≤ (decodeL l).2) → firstFrom l f n = firstD l
  | 0, n, h1, h5, hf, hg => by
    have hn : n = 5 := by omega
    subst hn
    cases hb : goodD (decodeL l) with
    | true => have := hg hb; have := decode_le4 l; omega
    | false =>
      obtain ⟨a, b⟩ := goodD_false _ hb
      simp [firstFrom, firstD, hb, a, b]
  | f + 1, n, h1, h5, hf, hg => by
    unfold firstFrom
    by_cases hc : n ≤ 4 ∧ n ≤ l.length
    · rw [if_pos hc]
      by_cases ht : refEnc (valueL (l.take n)) = l.take n
      · rw [if_pos ht]
        obtain ⟨a, b, c, d⟩ := try_yes l n h1 hc.2 ht
        simp only [firstD, a, c, d]
        refine Prod.ext ?_ rfl
        simp only
        omega
      · rw [if_neg ht]
        refine firstFrom_eq l hne f (n + 1) (by omega) (by omega) (by omega) (fun h => ?_)
        have h2 := hg h
        by_cases e : n = (decodeL l).2
        · exact absurd (by rw [e]; exact (try_no l hne h).1) ht
        · omega
    · rw [if_neg hc]
      cases hb : goodD (decodeL l) with
      | true => have := hg hb; have := decode_le4 l; have := decodeL_le l hne; omega
      | false =>
        obtain ⟨a, b⟩ := goodD_false _ hb
        simp [firstD, hb, a, b]

theorem first_eq (l : List UInt8) (hne : l ≠ []) : firstFrom l 4 1 = firstD l :=
  firstFrom_eq l hne 4 1 (by omega) (by omega) (by omega) (fun _ => decode_ge1 l)

end Go.Proofs.YtaocnnebfnlgiaaDoor
