/-
  The walk of UtfRow: it answers true.
-/
import Derived.Test.YtilblnolfcbdlaaLives1
import Derived.Test.YtilblnolfcbdlaaRowP
namespace Go.Proofs.Ytilblnolfcbdlaa
open Go.RowKit

theorem goodI_may (n : Int) : mayB (goodI n) = true := by
  have h := aroundI_bd n 1114112 (by omega)
  unfold goodI
  split
  · assumption
  · rename_i hm
    simp [mayB] at hm ⊢
    omega
theorem may_bd {c : Int} (h : mayB c = true) : 0 ≤ c ∧ c ≤ 1114111 ∧ (c < 55296 ∨ 57343 < c) := by simpa [mayB] using h

theorem enc_pos (c : Int) : 1 ≤ (Lib.encodeRune c).length := by
  have := (Lib.encodeRuneZ_length c).1
  unfold Lib.encodeRune
  simpa using this
theorem enc_le (c : Int) : (Lib.encodeRune c).length ≤ 4 := by
  have := (Lib.encodeRuneZ_length c).2
  unfold Lib.encodeRune
  simpa using this

theorem Parts.take_min {s t : List UInt8} (h : Parts s t) : t.take (min s.length t.length) ≠ s := by
  intro e
  by_cases hl : s.length ≤ t.length
  · rw [Nat.min_eq_left hl] at e; exact h.pre e
  · have := congrArg List.length e
    simp at this; omega
theorem Parts.take_min2 {s t : List UInt8} (h : Parts s t) : s.take (min t.length s.length) ≠ t := by
  intro e
  by_cases hl : t.length ≤ s.length
  · rw [Nat.min_eq_left hl] at e; exact h.pre2 e
  · have := congrArg List.length e
    simp at this; omega

theorem less_self (s : List UInt8) : Op.bytesLess s s = false := by
  induction s with
  | nil => rfl
  | cons c p ih =>
    have hc : ¬ c < c := by rw [UInt8.lt_iff_toNat_lt]; omega
    simp [Op.bytesLess, ih, hc]
theorem row_last {s t : List UInt8} (h : t.take (min s.length t.length) ≠ s) :
    ¬ ((⟨t.toArray⟩ : ByteArray).extract 0 (min (s.length : Int) (t.length : Int)).toNat).toList = s := by
  intro e
  apply h
  have hm : (min (s.length : Int) (t.length : Int)).toNat = min s.length t.length := by omega
  rw [hm, Lib.toList_data, Lib.extract_data] at e
  simpa using e

set_option maxHeartbeats 1000000 in
theorem utfRow_walk (a b : Int) (w : World) (ha0 : -9223372036854775808 ≤ a) (ha1 : a ≤ 9223372036854775807) (hb0 : -9223372036854775808 ≤ b) (hb1 : b ≤ 9223372036854775807) :
    Calls Try.prog 3 #[.int .i64 a, .int .i64 b] w fun e w' => e = .returned (.bool true) ∧ Below w.heap.size w w' := by
  have hma := goodI_may a
  have hmb := goodI_may b
  obtain ⟨x, hx⟩ : ∃ x, goodI a = x := ⟨_, rfl⟩
  obtain ⟨y, hy⟩ : ∃ y, goodI b = y := ⟨_, rfl⟩
  rw [hx] at hma
  rw [hy] at hmb
  have hxb := may_bd hma
  have hyb := may_bd hmb
  have hx0 := hxb.1
  have hx1 := hxb.2.1
  have hy0 := hyb.1
  have hy1 := hyb.2.1
  obtain ⟨s, hs⟩ : ∃ s, Lib.encodeRune x = s := ⟨_, rfl⟩
  obtain ⟨t, ht⟩ : ∃ t, Lib.encodeRune y = t := ⟨_, rfl⟩
  have hs1 := enc_pos x
  have hs4 := enc_le x
  have ht1 := enc_pos y
  have ht4 := enc_le y
  rw [hs] at hs1 hs4
  rw [ht] at ht1 ht4
  have hes : encS x (mayB x) = ⟨s.toArray⟩ := by rw [hma, ← hs]; rfl
  have het : encS y (mayB y) = ⟨t.toArray⟩ := by rw [hmb, ← ht]; rfl
  have HES := Lib.hid hes
  have HET := Lib.hid het
  have HX := Lib.hid hx
  have HY := Lib.hid hy
  have ens : ((s.length : Int) == 0) = false := by simp; rintro rfl; simp at hs1
  have ent : ((t.length : Int) == 0) = false := by simp; rintro rfl; simp at ht1
  rcases Int.lt_trichotomy x y with h | h | h
  · have P := enc_parts x y hxb.1 hxb.2.2 hyb.2.2 hyb.2.1 h
    rw [hs, ht] at P
    have b1 := P.less
    have b2 : (s == t) = false := by simpa using P.ne
    have b3 : (x == y) = false := by simp; omega
    have hl1 := row_last P.take_min
    have hl2 : (((⟨t.toArray⟩ : ByteArray).extract 0 (min (s.length : Int) (t.length : Int)).toNat).toList == s) = false := by simpa using hl1
    have HT := Lib.hid True.intro
    by_cases hlen : s.length ≤ t.length
    all_goals
      clear hma hmb hes het hx hy hs ht hxb hyb P
      go_enter Try.func3, Try.ntmps3
      go_wp2_with fail
      refine (good_any a w ha0 ha1).mono ?_
      rintro e w1 ⟨rfl, rfl⟩
      rw [HX.out]
      go_wp2_with fail
      refine (good_any b w hb0 hb1).mono ?_
      rintro e w1 ⟨rfl, rfl⟩
      rw [HY.out]
      go_wp2_with fail
      refine (uenc_any x w (by omega) (by omega)).mono ?_
      rintro e w1 ⟨rfl, hw1⟩
      rw [HES.out]
      go_wp2_with fail
      refine (uenc_any y w1 (by omega) (by omega)).mono ?_
      rintro e w2 ⟨rfl, hw2⟩
      rw [HET.out]
      have hb := hw1.trans (hw2.mono hw1.size)
      clear hw1 hw2
      go_wp2_with fail
      all_goals first
        | (refine (lives1 w2).mono ?_
           rintro e w3 ⟨rfl, hw3⟩
           go_wp2
           go_ret
           exact ⟨rfl, hb.trans (hw3.mono hb.size)⟩)
        | exact absurd HT.out ‹_›
  · subst h
    rw [hs] at ht
    subst ht
    have b1 := less_self s
    have HT := Lib.hid True.intro
    clear hma hmb hes het hx hy hs hxb hyb
    go_enter Try.func3, Try.ntmps3
    go_wp2_with fail
    refine (good_any a w ha0 ha1).mono ?_
    rintro e w1 ⟨rfl, rfl⟩
    rw [HX.out]
    go_wp2_with fail
    refine (good_any b w hb0 hb1).mono ?_
    rintro e w1 ⟨rfl, rfl⟩
    rw [HY.out]
    go_wp2_with fail
    refine (uenc_any x w (by omega) (by omega)).mono ?_
    rintro e w1 ⟨rfl, hw1⟩
    rw [HES.out]
    go_wp2_with fail
    refine (uenc_any x w1 (by omega) (by omega)).mono ?_
    rintro e w2 ⟨rfl, hw2⟩
    rw [HET.out]
    have hb := hw1.trans (hw2.mono hw1.size)
    clear hw1 hw2
    go_wp2_with fail
    all_goals first
      | (refine (lives1 w2).mono ?_
         rintro e w3 ⟨rfl, hw3⟩
         go_wp2
         go_ret
         exact ⟨rfl, hb.trans (hw3.mono hb.size)⟩)
      | exact absurd HT.out ‹_›
  · have P := enc_parts y x hyb.1 hyb.2.2 hxb.2.2 hxb.2.1 h
    rw [ht, hs] at P
    have b1 := P.notLess
    have b2 : (s == t) = false := by simpa using P.ne.symm
    have b3 : (x == y) = false := by simp; omega
    have hl1 := row_last P.take_min2
    have hl2 : (((⟨t.toArray⟩ : ByteArray).extract 0 (min (s.length : Int) (t.length : Int)).toNat).toList == s) = false := by simpa using hl1
    have HT := Lib.hid True.intro
    by_cases hlen : s.length ≤ t.length
    all_goals
      clear hma hmb hes het hx hy hs ht hxb hyb P
      go_enter Try.func3, Try.ntmps3
      go_wp2_with fail
      refine (good_any a w ha0 ha1).mono ?_
      rintro e w1 ⟨rfl, rfl⟩
      rw [HX.out]
      go_wp2_with fail
      refine (good_any b w hb0 hb1).mono ?_
      rintro e w1 ⟨rfl, rfl⟩
      rw [HY.out]
      go_wp2_with fail
      refine (uenc_any x w (by omega) (by omega)).mono ?_
      rintro e w1 ⟨rfl, hw1⟩
      rw [HES.out]
      go_wp2_with fail
      refine (uenc_any y w1 (by omega) (by omega)).mono ?_
      rintro e w2 ⟨rfl, hw2⟩
      rw [HET.out]
      have hb := hw1.trans (hw2.mono hw1.size)
      clear hw1 hw2
      go_wp2_with fail
      all_goals first
        | (refine (lives1 w2).mono ?_
           rintro e w3 ⟨rfl, hw3⟩
           go_wp2
           go_ret
           exact ⟨rfl, hb.trans (hw3.mono hb.size)⟩)
        | exact absurd HT.out ‹_›

end Go.Proofs.Ytilblnolfcbdlaa
