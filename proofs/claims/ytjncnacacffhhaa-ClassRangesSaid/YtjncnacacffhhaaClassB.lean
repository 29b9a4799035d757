/-
  The class layer's example, its blanks; the walks of ClassHangul and ClassBlanks.
-/
import Derived.Test.YtjncnacacffhhaaClass2
import Derived.Test.YtjncnacacffhhaaBase
namespace Go.Proofs.Ytjncnacacffhhaa
open Go.RowKit

theorem around_nat (n m : Int) (hm : 1 ≤ m) : ∃ k : Nat, aroundI n m = (k : Int) ∧ (k : Int) < m := by
  have h := aroundI_bd n m hm
  exact ⟨(aroundI n m).toNat, by omega, by omega⟩

set_option maxHeartbeats 400000 in
theorem lives02 (w : World) :
    Calls Try.prog 14 #[] w fun e w' => e = .returned (.bool true) ∧ Below w.heap.size w w' := by
  go_enter Try.func14, Try.ntmps14
  go_wp2_with fail
  refine (of_any 769 w (by omega) (by omega)).mono ?_
  rintro e w1 ⟨rfl, b1⟩
  rw [show ofI 769 = 4 by decide]
  go_wp2_with fail
  refine (of_any 44033 w1 (by omega) (by omega)).mono ?_
  rintro e w2 ⟨rfl, b2⟩
  rw [show ofI 44033 = 13 by decide]
  go_wp2
  go_ret
  exact ⟨rfl, b1.trans (b2.mono b1.size)⟩

set_option maxHeartbeats 1000000 in
theorem classHangul_walk (l v t : Int) (w : World) (hl0 : -9223372036854775808 ≤ l) (hl1 : l ≤ 9223372036854775807) (hv0 : -9223372036854775808 ≤ v) (hv1 : v ≤ 9223372036854775807) (ht0 : -9223372036854775808 ≤ t) (ht1 : t ≤ 9223372036854775807) :
    Calls Try.prog 4 #[.int .i64 l, .int .i64 v, .int .i64 t] w fun e w' => e = .returned (.bool true) ∧ Below w.heap.size w w' := by
  obtain ⟨a, ha, ha1⟩ := around_nat l 19 (by omega)
  obtain ⟨b, hb, hb1⟩ := around_nat v 21 (by omega)
  obtain ⟨q, hq, hq1⟩ := around_nat t 28 (by omega)
  have HA := Lib.hid ha
  have HB := Lib.hid hb
  have HQ := Lib.hid hq
  clear ha hb hq
  by_cases hz : q = 0
  · subst hz
    have HO : Hid (ofI (44032 + ((a : Int) * 21 + b) * 28) = 12) := by
      show _ = _
      unfold ofI; rw [if_pos ⟨by omega, by omega⟩, if_pos (by omega)]
    go_enter Try.func4, Try.ntmps4
    go_wp2_with fail
    refine (around_any t 28 w ht0 ht1 (by omega) (by omega)).mono ?_
    rintro e w' ⟨rfl, rfl⟩
    rw [HQ.out]
    go_wp2_with fail
    refine (around_any l 19 w hl0 hl1 (by omega) (by omega)).mono ?_
    rintro e w' ⟨rfl, rfl⟩
    rw [HA.out]
    go_wp2_with fail
    refine (around_any v 21 w hv0 hv1 (by omega) (by omega)).mono ?_
    rintro e w' ⟨rfl, rfl⟩
    rw [HB.out]
    go_wp2_with fail
    refine (of_any _ w (by omega) (by omega)).mono ?_
    rintro e w1 ⟨rfl, b1⟩
    rw [HO.out]
    go_wp2_with fail
    refine (of_any 44031 w1 (by omega) (by omega)).mono ?_
    rintro e w2 ⟨rfl, b2⟩
    rw [show ofI 44031 = 0 by decide]
    go_wp2_with fail
    refine (of_any 55204 w2 (by omega) (by omega)).mono ?_
    rintro e w3 ⟨rfl, b3⟩
    rw [show ofI 55204 = 0 by decide]
    go_wp2_with fail
    refine (of_any 55203 w3 (by omega) (by omega)).mono ?_
    rintro e w4 ⟨rfl, b4⟩
    rw [show ofI 55203 = 13 by decide]
    go_wp2_with fail
    refine (lives02 w4).mono ?_
    rintro e w5 ⟨rfl, b5⟩
    go_wp2
    go_ret
    have h1 := b1.size
    have h2 := b2.size
    have h3 := b3.size
    have h4 := b4.size
    exact ⟨rfl, b1.trans ((b2.mono (by omega)).trans ((b3.mono (by omega)).trans ((b4.mono (by omega)).trans (b5.mono (by omega)))))⟩
  · have hz2 : ((q : Int) == 0) = false := by simp; omega
    have HO : Hid (ofI (44032 + ((a : Int) * 21 + b) * 28 + q) = 13) := by
      show _ = _
      unfold ofI; rw [if_pos ⟨by omega, by omega⟩, if_neg (by omega)]
    have hq2 : 1 ≤ q := by omega
    clear hz
    go_enter Try.func4, Try.ntmps4
    go_wp2_with fail
    refine (around_any t 28 w ht0 ht1 (by omega) (by omega)).mono ?_
    rintro e w' ⟨rfl, rfl⟩
    rw [HQ.out]
    go_wp2_with fail
    refine (around_any l 19 w hl0 hl1 (by omega) (by omega)).mono ?_
    rintro e w' ⟨rfl, rfl⟩
    rw [HA.out]
    go_wp2_with fail
    refine (around_any v 21 w hv0 hv1 (by omega) (by omega)).mono ?_
    rintro e w' ⟨rfl, rfl⟩
    rw [HB.out]
    go_wp2_with fail
    refine (of_any _ w (by omega) (by omega)).mono ?_
    rintro e w1 ⟨rfl, b1⟩
    rw [HO.out]
    go_wp2_with fail
    refine (of_any 44031 w1 (by omega) (by omega)).mono ?_
    rintro e w2 ⟨rfl, b2⟩
    rw [show ofI 44031 = 0 by decide]
    go_wp2_with fail
    refine (of_any 55204 w2 (by omega) (by omega)).mono ?_
    rintro e w3 ⟨rfl, b3⟩
    rw [show ofI 55204 = 0 by decide]
    go_wp2_with fail
    refine (of_any 55203 w3 (by omega) (by omega)).mono ?_
    rintro e w4 ⟨rfl, b4⟩
    rw [show ofI 55203 = 13 by decide]
    go_wp2_with fail
    refine (lives02 w4).mono ?_
    rintro e w5 ⟨rfl, b5⟩
    go_wp2
    go_ret
    have h1 := b1.size
    have h2 := b2.size
    have h3 := b3.size
    have h4 := b4.size
    exact ⟨rfl, b1.trans ((b2.mono (by omega)).trans ((b3.mono (by omega)).trans ((b4.mono (by omega)).trans (b5.mono (by omega)))))⟩

end Go.Proofs.Ytjncnacacffhhaa
