/-
  The walk of HistoryRuns: it answers true.
-/
import Derived.Test.YtilblnolfcbdlaaHistL
namespace Go.Proofs.Ytilblnolfcbdlaa
open Go.RowKit

/-- A remainder as a natural number. -/
theorem around_nat (n m : Int) (hm : 1 ≤ m) : ∃ k : Nat, aroundI n m = (k : Int) ∧ (k : Int) < m := by
  have h := aroundI_bd n m hm
  exact ⟨(aroundI n m).toNat, by omega, by omega⟩

theorem new_int (w : World) (c : Int) (n : Nat) (hc : c = (n : Int)) (h0 : 1 ≤ n) (h1 : n ≤ 1024) :
    Calls Try.prog 16 #[.int .i64 c] w fun e w' => e = .returned (.tuple #[.pointer (some ⟨w.heap.size, 0, none⟩), .int .i64 0]) ∧ Hist w' (fun _ => False) w.heap.size n [] [] 0 ∧ Below w.heap.size w w' := by
  subst hc
  exact new_in w n h0 h1

def runsL (l : List Int) (k : Nat) (a : Int) : List Int := if k = 0 then l else l ++ [a]
def runsR (k : Nat) (r : Int) : Int := if k = 0 then 0 else r
theorem runs_step (l : List Int) (cap k : Nat) (a was r : Int) (hl : l.length < cap) (hr : 1 ≤ r) (hw : k = 0 → was = a) : noteL cap (runsL l k a) (runsR k r) was r = runsL l (k + 1) a := by
  unfold noteL runsL runsR
  by_cases hk : k = 0
  · subst hk
    rw [hw rfl]
    simp
    rw [if_pos (by omega)]
    unfold pushL
    rw [if_neg (by omega)]
  · simp [hk]
    omega

set_option maxHeartbeats 2000000 in
theorem historyRuns_walk (cap a b run : Int) (w : World) (hc0 : -9223372036854775808 ≤ cap) (hc1 : cap ≤ 9223372036854775807) (ha0 : -9223372036854775808 ≤ a) (ha1 : a ≤ 9223372036854775807)
    (hb0 : -9223372036854775808 ≤ b) (hb1 : b ≤ 9223372036854775807) (hr0 : -9223372036854775808 ≤ run) (hr1 : run ≤ 9223372036854775807) :
    Calls Try.prog 5 #[.int .i64 cap, .int .i64 a, .int .i64 b, .int .i64 run] w fun e w' => e = .returned (.bool true) ∧ Below w.heap.size w w' := by
  obtain ⟨m, hm, hm1⟩ := around_nat cap 5 (by omega)
  obtain ⟨q, hq, hq1⟩ := around_nat run 9 (by omega)
  obtain ⟨x, hx, hx1⟩ := around_nat a 5 (by omega)
  obtain ⟨y, hy, hy1⟩ := around_nat b 5 (by omega)
  have HM := Lib.hid hm
  have HQ := Lib.hid hq
  have HX := Lib.hid hx
  have HY := Lib.hid hy
  clear hm hq hx hy
  go_enter Try.func5, Try.ntmps5
  go_wp2_with fail
  refine (around_any cap 5 w hc0 hc1 (by omega) (by omega)).mono ?_
  rintro e w' ⟨rfl, rfl⟩
  rw [HM.out]
  go_wp2_with fail
  refine (around_any run 9 w hr0 hr1 (by omega) (by omega)).mono ?_
  rintro e w' ⟨rfl, rfl⟩
  rw [HQ.out]
  go_wp2_with fail
  refine (new_int w (2 + (m : Int)) (2 + m) (by omega) (by omega) (by omega)).mono ?_
  rintro e w1 ⟨rfl, h1, b1⟩
  have HS : Hid (w.heap.size ≤ w1.heap.size) := b1.size
  obtain ⟨B, hB⟩ : ∃ B, w.heap.size = B := ⟨_, rfl⟩
  have HB := Lib.hid hB
  rw [hB] at h1 b1 ⊢
  clear hB
  have B1 := aside b1
  have H1 := aside h1
  clear b1 h1
  go_wp2_with fail
  refine (around_any a 5 w1 ha0 ha1 (by omega) (by omega)).mono ?_
  rintro e w' ⟨rfl, rfl⟩
  rw [HX.out]
  go_wp2_with fail
  refine (around_any b 5 w1 hb0 hb1 (by omega) (by omega)).mono ?_
  rintro e w' ⟨rfl, rfl⟩
  rw [HY.out]
  go_wp2_with fail
  go_loopw [15] (fun i wr => ∃ k : Nat, i = .int .i64 k ∧ (k : Int) ≤ 1 + x ∧ Aside (Hist wr (fun _ => False) B (2 + m) (runsL [] k 0) [] (runsR k (1 + q))) ∧ Aside (Fr (fun _ => False) B w1 wr)) (fun i _ => 1 + x - (intOf i).toNat)
  case atStart => exact ⟨0, rfl, by omega, H1, Fr.refl _ _ _⟩
  case round =>
    obtain ⟨k, rfl, hk, H2, F2⟩ := hrel
    by_cases hlt : (k : Int) < 1 + x
    · go_wp2_with fail
      refine (note_any _ B (2 + m) _ [] _ wr k (1 + q) H2.out (no_X _) (by unfold runsL; split <;> simp) (by omega)).mono ?_
      rintro e w3 ⟨rfl, h3, f3⟩
      rw [runs_step [] (2 + m) k 0 k (1 + q) (by simp; omega) (by omega) (by omega)] at h3
      have H3 := aside h3
      have F3 := aside (F2.out.trans f3)
      clear h3 f3
      go_wp2
      go_roundw
      case rel => exact ⟨k + 1, by go_num, by omega, by simpa [runsR] using H3, F3⟩
      case measure => simp [intOf]; omega
    · obtain ⟨k, rfl⟩ : ∃ k', k = k' + 1 := ⟨k - 1, by omega⟩
      go_wp2_with fail
      refine (brk_any _ B (2 + m) _ [] _ wr H2.out).mono ?_
      rintro e w3 ⟨rfl, h3, f3⟩
      have H3 : Aside (Hist w3 (fun _ => False) B (2 + m) [0] [] 0) := aside (by simpa [runsL] using h3)
      have F3 := aside (F2.out.trans f3)
      clear h3 f3
      go_wp2_with fail
      go_loopw [16] (fun i wr => ∃ k : Nat, i = .int .i64 k ∧ (k : Int) ≤ 1 + y ∧ Aside (Hist wr (fun _ => False) B (2 + m) (runsL [0] k 100) [] (runsR k (1 + q))) ∧ Aside (Fr (fun _ => False) B w1 wr)) (fun i _ => 1 + y - (intOf i).toNat)
      case atStart => exact ⟨0, rfl, by omega, H3, F3⟩
      case round =>
        obtain ⟨j, rfl, hj, H4, F4⟩ := hrel
        by_cases hlt2 : (j : Int) < 1 + y
        · go_wp2_with fail
          refine (note_any _ B (2 + m) _ [] _ _ (100 + j) (1 + q) H4.out (no_X _) (by unfold runsL; split <;> simp) (by omega)).mono ?_
          rintro e w5 ⟨rfl, h5, f5⟩
          rw [runs_step [0] (2 + m) j 100 (100 + j) (1 + q) (by simp; omega) (by omega) (by omega)] at h5
          have H5 := aside h5
          have F5 := aside (F4.out.trans f5)
          clear h5 f5
          go_wp2
          go_roundw
          case rel => exact ⟨j + 1, by go_num, by omega, by simpa [runsR] using H5, F5⟩
          case measure => simp [intOf]; omega
        · obtain ⟨j, rfl⟩ : ∃ j', j = j' + 1 := ⟨j - 1, by omega⟩
          have H5 := H4.out
          rw [show runsL [0] (j + 1) 100 = [0, 100] by simp [runsL]] at H5
          have H6 := aside H5
          clear H5 H4
          go_wp2_with fail
          refine (len_any _ B (2 + m) _ [] _ _ H6.out).mono ?_
          rintro e w7 ⟨rfl, n7, rfl⟩
          go_wp2_with fail
          refine (undo_some _ B (2 + m) [0] [] _ _ 7 100 (by obtain ⟨vb, va, V⟩ := H6.out; exact ⟨vb, va, V.drewN _⟩) (no_X _) (by decide)).mono ?_
          rintro e w8 ⟨rfl, h8, f8⟩
          have F8 := aside ((F4.out.drewN _).trans f8)
          clear f8
          go_wp2_with fail
          refine (undo_some _ B (2 + m) [] _ _ _ 100 0 h8 (no_X _) (by decide)).mono ?_
          rintro e w9 ⟨rfl, h9, f9⟩
          have F9 := aside (F8.out.trans f9)
          clear f9 h8
          go_wp2_with fail
          refine (undo_none _ B (2 + m) _ _ _ 0 h9).mono ?_
          rintro e w10 ⟨rfl, rfl⟩
          clear h9
          go_wp2_with fail
          refine (lives22 _).mono ?_
          rintro e w11 ⟨rfl, b11⟩
          go_wp2
          go_ret
          have hs1 := HS.out
          have heq := HB.out
          have hs9 := F9.out.size
          have hb := (B1.out.trans (F9.out.below (by omega))).trans (b11.mono (by omega))
          exact ⟨rfl, by rw [heq]; exact hb⟩

end Go.Proofs.Ytilblnolfcbdlaa
