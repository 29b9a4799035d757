/-
  The walk of PlaceWalks: words to the right come to the end, to the left to the beginning.
-/
import Derived.Test.YtaocnnebfnlgiaaDoorWordR
namespace Go.Proofs.YtaocnnebfnlgiaaDoor
open Go.RowKit

set_option maxRecDepth 100000 in
set_option maxHeartbeats 4000000 in
theorem placeWalks_walk (s : ByteArray) (W : World) (hs : s.size ≤ 9223372036854775807) (hT : Lib.Utf8Tabs 0 1 W) :
    Calls Tryd.prog 4 #[.string s] W fun e w' => e = .returned (.bool true) ∧ Below W.heap.size W w' := by
  have BE := Lib.hid (begin_any s W hs)
  have hf := fewS_le s 40
  obtain ⟨t, ht⟩ : ∃ t, fewS s 40 = t := ⟨_, rfl⟩
  rw [ht] at BE hf
  clear ht
  have HO := Lib.hid (okS_of t (by omega))
  have hcl := cstarts_len t
  have hcl2 := clen_le t
  obtain ⟨l, hl⟩ : ∃ l, cstarts t = l := ⟨_, rfl⟩
  rw [hl] at BE HO hcl
  clear hl
  have hp := HO.out.ok.pos
  obtain ⟨n, hn⟩ : ∃ n, clen t = n := ⟨_, rfl⟩
  rw [hn] at hcl hcl2
  have hn40 : n ≤ 40 := by omega
  have HL := Lib.hid hcl
  have HT := Lib.hid hT
  have FR := Lib.hid (fun i h => wordR_far (blankAt t l) n i h)
  have FB := Lib.hid (fun i h => wordR_bd (blankAt t l) n i h)
  have FL := Lib.hid (fun i h => wordL_far (blankAt t l) i h)
  have CS := Lib.hid (fun i h => clampN_self i n h)
  clear hT hn hcl hcl2 hp
  go_enter Tryd.func4, Tryd.ntmps4
  go_wp2_with fail
  refine BE.out.mono ?_
  rintro e w1 ⟨g, v, rfl, m1, i1, b1⟩
  obtain ⟨vb, vo, vc, rfl, hv1, hv2, VC⟩ := i1.cells_ HO.out.ok.pos
  rw [HL.out] at hv1 ⊢
  have B1 := aside b1
  have MR := Lib.hid (fun (i : Nat) (hi : i ≤ n) (W : World) (h : Below w1.heap.size w1 W) => by
    have hc := mwordR_any g t l (i : Int) W (m1.below h (Nat.le_refl _)) HO.out (tabs_next (tabs_next HT.out b1) h) (by omega) (by omega)
    rw [show l.length - 1 = n by have := HL.out; omega, CS.out i hi] at hc
    exact hc)
  have ML := Lib.hid (fun (i : Nat) (hi : i ≤ n) (W : World) (h : Below w1.heap.size w1 W) => by
    have hc := mwordL_any g t l (i : Int) W (m1.below h (Nat.le_refl _)) HO.out (tabs_next (tabs_next HT.out b1) h) (by omega) (by omega)
    rw [show l.length - 1 = n by have := HL.out; omega, CS.out i hi] at hc
    exact hc)
  clear m1 i1 b1 VC
  go_wp2_with fail
  go_loopw [6, 7, 8] (fun i k _ wr => ∃ i' k' : Nat, i = .int .i64 (i' : Int) ∧ k = .int .i64 (k' : Int) ∧ k' ≤ i' ∧ i' ≤ n ∧ Aside (Below w1.heap.size w1 wr)) (fun i _ _ _ => n - (intOf i).toNat)
  case atStart => exact ⟨0, 0, rfl, rfl, by omega, by omega, Below.refl _ _⟩
  case round =>
    obtain ⟨i, k, rfl, rfl, hki, hi, HY⟩ := hrel
    by_cases hlt : i < n
    · have h1 : (k : Int) ≤ 40 := by omega
      have h2 : (i : Int) < (n : Int) := by omega
      have hfar := FR.out i hlt
      have hbd := (FB.out i hi).2
      have MR1 := Lib.hid (MR.out i hi wr HY.out)
      obtain ⟨j, hj⟩ : ∃ j, wordR (blankAt t l) n i = j := ⟨_, rfl⟩
      rw [hj] at hfar hbd MR1
      have h3 : ¬ (j : Int) ≤ (i : Int) := by omega
      have h4 : (j : Int) ≤ (n : Int) := by omega
      have h5 : (i : Int) < (j : Int) := by omega
      clear hj
      go_wp2_with fail
      refine MR1.out.mono ?_
      rintro e w2 ⟨rfl, b2⟩
      have B2 := aside (HY.out.trans (b2.mono HY.out.size))
      clear b2
      go_wp2
      go_roundw
      case rel => exact ⟨j, k + 1, rfl, by go_num, by omega, by omega, B2⟩
      case measure => simp [intOf]; omega
    · obtain rfl : i = n := by omega
      have h1 : (k : Int) ≤ 40 := by omega
      go_wp2_with fail
      obtain ⟨wo, rfl⟩ : ∃ wo : World, wo = wr := ⟨_, rfl⟩
      go_loopw [6, 9, 10] (fun a k _ wr => ∃ i' k' : Nat, a = .int .i64 (i' : Int) ∧ k = .int .i64 (k' : Int) ∧ k' + i' ≤ i ∧ Aside (Below w1.heap.size w1 wr)) (fun a _ _ _ => (intOf a).toNat)
      case atStart => exact ⟨i, 0, rfl, rfl, by omega, HY⟩
      case round =>
        obtain ⟨a, k2, rfl, rfl, hka, HZ⟩ := hrel
        by_cases ha : 0 < a
        · have g1 : (k2 : Int) ≤ 40 := by omega
          have g2 : (0 : Int) < (a : Int) := by omega
          have hfar := FL.out a ha
          have ML1 := Lib.hid (ML.out a (by omega) wr HZ.out)
          obtain ⟨j, hj⟩ : ∃ j, wordL (blankAt t l) a = j := ⟨_, rfl⟩
          rw [hj] at hfar ML1
          have h3 : ¬ (a : Int) ≤ (j : Int) := by omega
          have h5 : (j : Int) < (a : Int) := by omega
          clear hj
          go_wp2_with fail
          refine ML1.out.mono ?_
          rintro e w2 ⟨rfl, b2⟩
          have B2 := aside (HZ.out.trans (b2.mono HZ.out.size))
          clear b2
          go_wp2
          go_roundw
          case rel => exact ⟨j, k2 + 1, rfl, by go_num, by omega, B2⟩
          case measure => simp [intOf]; omega
        · obtain rfl : a = 0 := by omega
          have g1 : (k2 : Int) ≤ 40 := by omega
          have hz : ((0 : Nat) : Int) = 0 := by omega
          rw [hz]
          clear hz
          go_wp2_with fail
          refine (lives4 _).mono ?_
          rintro e w' ⟨rfl, b3⟩
          have B3 := aside ((B1.out.trans (HZ.out.mono B1.out.size)).trans (b3.mono (Nat.le_trans B1.out.size HZ.out.size)))
          clear b3
          go_wp2
          go_ret
          exact ⟨rfl, B3.out⟩

end Go.Proofs.YtaocnnebfnlgiaaDoor
