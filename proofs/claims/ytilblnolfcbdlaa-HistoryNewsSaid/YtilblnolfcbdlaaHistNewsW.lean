/-
  The walk of HistoryNews: it answers true.
-/
import Derived.Test.YtilblnolfcbdlaaHistL
namespace Go.Proofs.Ytilblnolfcbdlaa
open Go.RowKit

set_option maxHeartbeats 1000000 in
theorem historyNews_walk (n : Int) (w : World) (h0 : -9223372036854775808 ≤ n) (h1 : n ≤ 9223372036854775807) :
    Calls Try.prog 4 #[.int .i64 n] w fun e w' => e = .returned (.bool true) ∧ Below w.heap.size w w' := by
  obtain ⟨m, hm⟩ : ∃ m, aroundI n 1027 = m := ⟨_, rfl⟩
  have hb := aroundI_bd n 1027 (by omega)
  rw [hm] at hb
  obtain ⟨hb0, hb1⟩ := hb
  have HM := Lib.hid hm
  clear hm
  go_enter Try.func4, Try.ntmps4
  go_wp2_with fail
  refine (around_any n 1027 w h0 h1 (by omega) (by omega)).mono ?_
  rintro e w' ⟨rfl, rfl⟩
  rw [HM.out]
  go_wp2_with fail
  go_loopw [4] (fun i wr => ∃ k : Nat, i = .int .i64 k ∧ k ≤ 2 ∧ Below (w.heap.size + 1) (w.alloc (.cells #[.int .i64 n, .int .i64 m] 3)) wr) (fun i _ => 2 - (intOf i).toNat)
  case atStart => exact ⟨0, rfl, by omega, Below.refl _ _⟩
  case round =>
    obtain ⟨k, rfl, hk, hbw⟩ := hrel
    have BW := aside hbw
    have hc0 : wr.cell? ⟨w.heap.size, 0, none⟩ = some (.int .i64 n) := by rw [hbw.cell (p := ⟨w.heap.size, 0, none⟩) (by simp)]; simp
    have hc1 : wr.cell? ⟨w.heap.size, 1, none⟩ = some (.int .i64 m) := by rw [hbw.cell (p := ⟨w.heap.size, 1, none⟩) (by simp)]; simp
    clear hbw
    have hk3 : k = 0 ∨ k = 1 ∨ k = 2 := by omega
    rcases hk3 with rfl | rfl | rfl
    · clear hc1
      by_cases hin : 1 ≤ n ∧ n ≤ 1024
      · obtain ⟨hi0, hi1⟩ := hin
        go_wp2_with fail
        refine (newS_in n _ hi0 hi1).mono ?_
        rintro e w2 ⟨p, rfl, hb2⟩
        have BW2 := aside (BW.out.trans (hb2.mono (by have := BW.out.size; simp at this; exact this)))
        have hc' : w2.cell? ⟨w.heap.size, 0, none⟩ = some (.int .i64 n) := by rw [BW2.out.cell (p := ⟨w.heap.size, 0, none⟩) (by simp)]; simp
        clear hb2
        go_wp2
        go_roundw
        case rel => exact ⟨0 + 1, by go_num, by omega, BW2.out⟩
        case measure => simp [intOf]
      · have ho : n < 1 ∨ 1024 < n := by omega
        by_cases hi0 : n < 1
        all_goals
          have hi1 : n < 1 ∨ 1024 < n := by omega
          have HO := Lib.hid ho
          clear ho hin hi1
          go_wp2_with fail
          refine (newS_out n _ HO.out).mono ?_
          rintro e w2 ⟨rfl, rfl⟩
          first
            | (have hi2 : 1024 < n := by have := HO.out; omega
               go_wp2
               go_roundw
               case rel => exact ⟨0 + 1, by go_num, by omega, BW.out⟩
               case measure => simp [intOf])
            | (go_wp2
               go_roundw
               case rel => exact ⟨0 + 1, by go_num, by omega, BW.out⟩
               case measure => simp [intOf])
    · clear hc0
      by_cases hin : 1 ≤ m ∧ m ≤ 1024
      · obtain ⟨hi0, hi1⟩ := hin
        go_wp2_with fail
        refine (newS_in m _ hi0 hi1).mono ?_
        rintro e w2 ⟨p, rfl, hb2⟩
        have BW2 := aside (BW.out.trans (hb2.mono (by have := BW.out.size; simp at this; exact this)))
        have hc' : w2.cell? ⟨w.heap.size, 1, none⟩ = some (.int .i64 m) := by rw [BW2.out.cell (p := ⟨w.heap.size, 1, none⟩) (by simp)]; simp
        clear hb2
        go_wp2
        go_roundw
        case rel => exact ⟨1 + 1, by go_num, by omega, BW2.out⟩
        case measure => simp [intOf]
      · have ho : m < 1 ∨ 1024 < m := by omega
        by_cases hi0 : m < 1
        all_goals
          have hi1 : m < 1 ∨ 1024 < m := by omega
          have HO := Lib.hid ho
          clear ho hin hi1
          go_wp2_with fail
          refine (newS_out m _ HO.out).mono ?_
          rintro e w2 ⟨rfl, rfl⟩
          first
            | (have hi2 : 1024 < m := by have := HO.out; omega
               go_wp2
               go_roundw
               case rel => exact ⟨1 + 1, by go_num, by omega, BW.out⟩
               case measure => simp [intOf])
            | (go_wp2
               go_roundw
               case rel => exact ⟨1 + 1, by go_num, by omega, BW.out⟩
               case measure => simp [intOf])
    · clear hc0 hc1
      go_wp2_with fail
      refine (lives22 _).mono ?_
      rintro e w2 ⟨rfl, hb2⟩
      go_wp2
      go_ret
      have hs := BW.out.size
      simp at hs
      exact ⟨rfl, ((Below.refl _ _).alloc (Nat.le_refl _) _).trans ((BW.out.mono (by omega)).trans (hb2.mono (by omega)))⟩

end Go.Proofs.Ytilblnolfcbdlaa
