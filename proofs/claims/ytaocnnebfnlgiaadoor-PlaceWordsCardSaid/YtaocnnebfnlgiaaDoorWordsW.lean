/-
  The walk of PlaceWords: at each number the two answers are the same.
-/
import Derived.Test.YtaocnnebfnlgiaaDoorWordR
namespace Go.Proofs.YtaocnnebfnlgiaaDoor
open Go.RowKit

set_option maxRecDepth 100000 in
set_option maxHeartbeats 4000000 in
theorem placeWords_walk (s : ByteArray) (n : Int) (W : World) (hs : s.size ≤ 9223372036854775807) (hn0 : -9223372036854775808 ≤ n) (hn1 : n ≤ 9223372036854775807) (hT : Lib.Utf8Tabs 0 1 W) :
    Calls Tryd.prog 3 #[.string s, .int .i64 n] W fun e w' => e = .returned (.bool true) ∧ Below W.heap.size W w' := by
  have BE := Lib.hid (begin_any s W hs)
  have hf := fewS_le s 40
  obtain ⟨t, ht⟩ : ∃ t, fewS s 40 = t := ⟨_, rfl⟩
  rw [ht] at BE hf
  clear ht
  have HO := Lib.hid (okS_of t (by omega))
  have hcl := cstarts_len t
  have RR := Lib.hid (fun (i : Int) (W : World) (h0 : -9223372036854775808 ≤ i) (h1 : i ≤ 9223372036854775807) => rwordR_any t i W (by omega) h0 h1)
  have RL := Lib.hid (fun (i : Int) (W : World) (h0 : -9223372036854775808 ≤ i) (h1 : i ≤ 9223372036854775807) => rwordL_any t i W (by omega) h0 h1)
  have hcl2 : clen t = (cstarts t).length - 1 := by omega
  rw [hcl2] at RR RL
  clear hcl hcl2
  obtain ⟨l, hl⟩ : ∃ l, cstarts t = l := ⟨_, rfl⟩
  rw [hl] at BE HO RR RL
  clear hl
  have hp := HO.out.ok.pos
  have hq := HO.out.ok.small
  have HT := Lib.hid hT
  clear hT
  go_enter Tryd.func3, Tryd.ntmps3
  go_wp2_with fail
  refine BE.out.mono ?_
  rintro e w1 ⟨g, v, rfl, m1, i1, b1⟩
  obtain ⟨vb, vo, vc, rfl, hv1, hv2, VC⟩ := i1.cells_ hp
  have M1 := Lib.hid m1
  have B1 := aside b1
  have T1 := Lib.hid (tabs_next HT.out b1)
  clear m1 i1 b1 VC
  go_wp2_with fail
  go_loopw [8, 9] (fun i _ wr => ∃ k : Nat, i = .int .i64 ((k : Int) - 1) ∧ k ≤ l.length + 2 ∧ Aside (Below w1.heap.size w1 wr)) (fun i _ _ => l.length + 2 - ((intOf i) + 1).toNat)
  case atStart => exact ⟨0, rfl, by omega, Below.refl _ _⟩
  case round =>
    obtain ⟨k, rfl, hk, HY⟩ := hrel
    by_cases hlt : k < l.length + 2
    · obtain ⟨x, hx⟩ : ∃ x, (k : Int) - 1 = x := ⟨_, rfl⟩
      have hx0 : -1 ≤ x := by omega
      have hx1 : x ≤ (l.length : Int) := by omega
      rw [hx]
      have HX := Lib.hid hx
      clear hx
      have hcase : ∃ y : Int, y = (if x = (l.length : Int) then n else x) ∧ -9223372036854775808 ≤ y ∧ y ≤ 9223372036854775807 := ⟨_, rfl, by split <;> omega, by split <;> omega⟩
      obtain ⟨y, hy, hy0, hy1⟩ := hcase
      have MR := Lib.hid (fun (W : World) (h : Below w1.heap.size w1 W) => mwordR_any g t l y W (M1.out.below h (Nat.le_refl _)) HO.out (tabs_next T1.out h) hy0 hy1)
      have ML := Lib.hid (fun (W : World) (h : Below w1.heap.size w1 W) => mwordL_any g t l y W (M1.out.below h (Nat.le_refl _)) HO.out (tabs_next T1.out h) hy0 hy1)
      have RY := Lib.hid (fun W => RR.out y W hy0 hy1)
      have LY := Lib.hid (fun W => RL.out y W hy0 hy1)
      obtain ⟨a, ha⟩ : ∃ a, wordR (blankAt t l) (l.length - 1) (clampN y (l.length - 1)) = a := ⟨_, rfl⟩
      obtain ⟨b, hb⟩ : ∃ b, wordL (blankAt t l) (clampN y (l.length - 1)) = b := ⟨_, rfl⟩
      rw [ha] at MR RY
      rw [hb] at ML LY
      clear ha hb
      by_cases hxe : x = (l.length : Int)
      · rw [if_pos hxe] at hy
        have hxb : (x == (l.length : Int)) = true := by simpa using hxe
        clear hxe
        subst hy
        go_wp2_with fail
        refine (MR.out _ HY.out).mono ?_
        rintro e w2 ⟨rfl, b2⟩
        have B2 := aside (HY.out.trans (b2.mono HY.out.size))
        clear b2
        go_wp2_with fail
        refine (RY.out _).mono ?_
        rintro e w3 ⟨rfl, b3⟩
        have B3 := aside (B2.out.trans (b3.mono B2.out.size))
        clear b3
        go_wp2_with fail
        refine (ML.out _ B3.out).mono ?_
        rintro e w4 ⟨rfl, b4⟩
        have B4 := aside (B3.out.trans (b4.mono B3.out.size))
        clear b4
        go_wp2_with fail
        refine (LY.out _).mono ?_
        rintro e w5 ⟨rfl, b5⟩
        have B5 := aside (B4.out.trans (b5.mono B4.out.size))
        clear b5
        go_wp2
        go_roundw
        case rel => exact ⟨k + 1, by have := HX.out; congr 1; omega, by omega, B5⟩
        case measure => have := HX.out; simp [intOf]; omega
      · rw [if_neg hxe] at hy
        have hxb : (x == (l.length : Int)) = false := by simpa using hxe
        clear hxe
        subst hy
        go_wp2_with fail
        refine (MR.out _ HY.out).mono ?_
        rintro e w2 ⟨rfl, b2⟩
        have B2 := aside (HY.out.trans (b2.mono HY.out.size))
        clear b2
        go_wp2_with fail
        refine (RY.out _).mono ?_
        rintro e w3 ⟨rfl, b3⟩
        have B3 := aside (B2.out.trans (b3.mono B2.out.size))
        clear b3
        go_wp2_with fail
        refine (ML.out _ B3.out).mono ?_
        rintro e w4 ⟨rfl, b4⟩
        have B4 := aside (B3.out.trans (b4.mono B3.out.size))
        clear b4
        go_wp2_with fail
        refine (LY.out _).mono ?_
        rintro e w5 ⟨rfl, b5⟩
        have B5 := aside (B4.out.trans (b5.mono B4.out.size))
        clear b5
        go_wp2
        go_roundw
        case rel => exact ⟨k + 1, by have := HX.out; congr 1; omega, by omega, B5⟩
        case measure => have := HX.out; simp [intOf]; omega
    · obtain rfl : k = l.length + 2 := by omega
      have hx : ((l.length + 2 : Nat) : Int) - 1 = (l.length : Int) + 1 := by omega
      rw [hx]
      clear hx
      go_wp2_with fail
      refine (lives4 _).mono ?_
      rintro e w' ⟨rfl, b3⟩
      have B3 := aside ((B1.out.trans (HY.out.mono B1.out.size)).trans (b3.mono (Nat.le_trans B1.out.size HY.out.size)))
      clear b3
      go_wp2
      go_ret
      exact ⟨rfl, B3.out⟩

end Go.Proofs.YtaocnnebfnlgiaaDoor
