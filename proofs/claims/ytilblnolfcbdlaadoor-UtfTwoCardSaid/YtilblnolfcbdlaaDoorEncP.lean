/-
  Plain: a character's bytes, decoded from the front and from the back.
-/
import Derived.Test.YtilblnolfcbdlaaDoorUtf2
namespace Go.Proofs.YtilblnolfcbdlaaDoor
open Go.Lib

theorem good_may (n : Int) : mayB (goodI n) = true := by
  have h := aroundI_bd n 1114112 (by omega)
  unfold goodI
  cases hb : mayB (aroundI n 1114112) with
  | true => rw [if_pos rfl]; exact hb
  | false =>
    rw [if_neg (by simp)]
    rw [mayB_iff]
    have hn : ¬ mayB (aroundI n 1114112) = true := by rw [hb]; simp
    rw [mayB_iff] at hn
    omega

theorem refEnc_may (c : Int) (h : mayB c = true) : refEnc c = encodeRune c := by simp [refEnc, h]
theorem refEnc_ne (c : Int) (h : mayB c = true) : refEnc c ≠ [] := by
  rw [refEnc_may c h]
  intro e
  have := enc_len c
  rw [e] at this
  simp at this

theorem first_enc (c : Int) (h : mayB c = true) : firstS ⟨(refEnc c).toArray⟩ = (c, ((refEnc c).length : Int), true) := by
  have hd := decode_enc c h []
  rw [List.append_nil] at hd
  have hl := enc_len c
  have h0 := ((mayB_iff c).1 h).1
  rw [refEnc_may c h]
  unfold firstS
  rw [if_neg (by show ¬ (encodeRune c).toArray.size = 0; simp; intro e; rw [e] at hl; simp at hl)]
  unfold firstD
  simp only [List.toList_toArray, hd]
  refine Prod.ext ?_ (Prod.ext rfl ?_)
  · simp only; omega
  · cases hg : goodD (c.toNat, (encodeRune c).length) with
    | true => rfl
    | false =>
      obtain ⟨a, b⟩ := goodD_false _ hg
      simp only at a b
      have hc : c = 65533 := by omega
      rw [hc] at b
      exact absurd b (by decide)

theorem runeStart_lead (z : Int) (h0 : 192 ≤ z) (h1 : z < 256) : runeStartB z.toNat.toUInt8 = true := by
  have := byteN z (by omega) h1
  simp only [runeStartB, this, bne_iff_ne, ne_eq]
  omega
theorem runeStart_cont (z : Int) (h0 : 128 ≤ z) (h1 : z < 192) : runeStartB z.toNat.toUInt8 = false := by
  have := byteN z (by omega) (by omega)
  simp only [runeStartB, this, bne_eq_false_iff_eq]
  omega

theorem last_enc (c : Int) (h : mayB c = true) : decodeLastL (encodeRune c) = (c.toNat, (encodeRune c).length) := by
  have hd := decode_enc c h []
  rw [List.append_nil] at hd
  rcases enc_cases c h with ⟨h0, h1, e⟩ | ⟨h0, h1, e⟩ | ⟨h0, h1, h2, e⟩ | ⟨h0, h1, e⟩
  · have b0 := byteN c h0 (by omega)
    rw [e]
    unfold decodeLastL
    rw [if_neg (by simp), if_pos (by simp only [List.length_cons, List.length_nil, Nat.zero_add, Nat.sub_self, List.getD_cons_zero, b0]; omega)]
    simp only [List.length_cons, List.length_nil, Nat.zero_add, Nat.sub_self, List.getD_cons_zero, b0]
  · have b1 := byteN (128 + c % 64) (by omega) (by omega)
    have s0 := runeStart_lead (192 + c / 64) (by omega) (by omega)
    have hst : lastStart (encodeRune c) = 0 := by rw [e]; simp [lastStart, s0]
    unfold decodeLastL
    rw [if_neg (by rw [e]; simp), if_neg (by rw [e]; simp only [List.length_cons, List.length_nil, Nat.zero_add, Nat.reduceAdd, Nat.add_one_sub_one, List.getD_cons_succ, List.getD_cons_zero, b1]; omega)]
    simp only [hst, List.drop_zero, hd, Nat.zero_add, if_true]
  · have b2 := byteN (128 + c % 64) (by omega) (by omega)
    have s0 := runeStart_lead (224 + c / 4096) (by omega) (by omega)
    have s1 := runeStart_cont (128 + c / 64 % 64) (by omega) (by omega)
    have hst : lastStart (encodeRune c) = 0 := by rw [e]; simp [lastStart, s0, s1]
    unfold decodeLastL
    rw [if_neg (by rw [e]; simp), if_neg (by rw [e]; simp only [List.length_cons, List.length_nil, Nat.zero_add, Nat.reduceAdd, Nat.add_one_sub_one, List.getD_cons_succ, List.getD_cons_zero, b2]; omega)]
    simp only [hst, List.drop_zero, hd, Nat.zero_add, if_true]
  · have b3 := byteN (128 + c % 64) (by omega) (by omega)
    have s0 := runeStart_lead (240 + c / 262144) (by omega) (by omega)
    have s1 := runeStart_cont (128 + c / 4096 % 64) (by omega) (by omega)
    have s2 := runeStart_cont (128 + c / 64 % 64) (by omega) (by omega)
    have hst : lastStart (encodeRune c) = 0 := by rw [e]; simp [lastStart, s0, s1, s2]
    unfold decodeLastL
    rw [if_neg (by rw [e]; simp), if_neg (by rw [e]; simp only [List.length_cons, List.length_nil, Nat.zero_add, Nat.reduceAdd, Nat.add_one_sub_one, List.getD_cons_succ, List.getD_cons_zero, b3]; omega)]
    simp only [hst, List.drop_zero, hd, Nat.zero_add, if_true]

theorem last_encS (c : Int) (h : mayB c = true) : lastS ⟨(refEnc c).toArray⟩ = (c, ((refEnc c).length : Int), true) := by
  have hf := first_enc c h
  have hl := enc_len c
  rw [refEnc_may c h] at hf ⊢
  unfold lastS
  simp only [List.toList_toArray]
  rw [last_enc c h]
  unfold toldP
  simp only
  rw [if_neg (by omega)]
  have h0 := ((mayB_iff c).1 h).1
  have hg : goodD (c.toNat, (encodeRune c).length) = true := by
    have hd := decode_enc c h []
    rw [List.append_nil] at hd
    unfold firstS at hf
    rw [if_neg (by show ¬ (encodeRune c).toArray.size = 0; simp; intro e; rw [e] at hl; simp at hl)] at hf
    unfold firstD at hf
    simp only [List.toList_toArray, hd] at hf
    exact congrArg (fun p => p.2.2) hf
  rw [hg]
  refine Prod.ext ?_ rfl
  simp only; omega

end Go.Proofs.YtilblnolfcbdlaaDoor
