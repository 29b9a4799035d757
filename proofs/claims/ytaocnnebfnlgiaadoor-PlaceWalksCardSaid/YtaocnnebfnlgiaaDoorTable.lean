/-
  The contract of the reference's class of a character.
-/
import Derived.Test.YtaocnnebfnlgiaaDoorTableT
namespace Go.Proofs.YtaocnnebfnlgiaaDoor
open Go.RowKit

theorem findT_drop (c : Int) (j : Nat) (hj : j < tbl.length) : findT c (tbl.drop j) = if (tbl.getD j (0, 0, 0)).1 ≤ c ∧ c ≤ (tbl.getD j (0, 0, 0)).2.1 then (tbl.getD j (0, 0, 0)).2.2 else findT c (tbl.drop (j + 1)) := by
  rw [List.drop_eq_getElem_cons hj]
  have e : tbl.getD j (0, 0, 0) = tbl[j] := by simp [hj]
  rw [e]
  rfl

set_option maxHeartbeats 2000000 in
theorem rof_any (c : Int) (w : World) :
    Calls Tryd.prog 32 #[.int .i64 c] w fun e w' => e = .returned (.int .i64 (ofI c)) ∧ Below w.heap.size w w' := by
  by_cases hh : 44032 ≤ c ∧ c ≤ 55203
  · obtain ⟨hc0, hc1⟩ := hh
    have hn : 0 ≤ c - 44032 := by omega
    by_cases hz : (c - 44032) % 28 = 0
    · have HO := Lib.hid (show ofI c = 12 by unfold ofI; rw [if_pos ⟨hc0, hc1⟩, if_pos hz])
      have hz2 : ((c - 44032) % 28 == 0) = true := beq_iff_eq.2 hz
      have HZ := Lib.hid hz
      clear hz
      go_enter Tryd.func32, Tryd.ntmps32
      go_wp2
      go_ret
      exact ⟨ret_int (by rw [HO.out]), Below.refl _ _⟩
    · have HO := Lib.hid (show ofI c = 13 by unfold ofI; rw [if_pos ⟨hc0, hc1⟩, if_neg hz])
      have hz2 : ((c - 44032) % 28 == 0) = false := beq_eq_false_iff_ne.2 hz
      have HZ := Lib.hid hz
      clear hz
      go_enter Tryd.func32, Tryd.ntmps32
      go_wp2
      go_ret
      exact ⟨ret_int (by rw [HO.out]), Below.refl _ _⟩
  · have HO := Lib.hid (show ofI c = findT c tbl by rw [ofI_ref, if_neg hh])
    rw [HO.out]
    have hor : c < 44032 ∨ (44032 ≤ c ∧ 55203 < c) := by omega
    clear hh
    rcases hor with hlo | ⟨hlo, hhi⟩
    all_goals
      go_enter Tryd.func32, Tryd.ntmps32
      go_wp2_with fail
      refine (table_any w).mono ?_
      rintro e w1 ⟨v, rfl, ⟨b, rfl, hb, hcell⟩, hb1⟩
      have HC := Lib.hid hcell
      have B1 := aside hb1
      clear hcell hb1
      go_wp2_with fail
      go_loop [4] (fun i => ∃ k : Nat, i = .int .i64 k ∧ k ≤ 66 ∧ Hid (findT c (tbl.drop k) = findT c tbl)) (fun i => 66 - (intOf i).toNat)
      case atStart => exact ⟨0, rfl, by omega, rfl⟩
      case round =>
        obtain ⟨k, rfl, hk, HF⟩ := hrel
        by_cases hlt : k < 66
        · have hg := tcells_get tbl k (by rw [tbl_len]; exact hlt)
          have d0 := HC.out _ _ hg.1
          have d1 := HC.out _ _ hg.2.1
          have d2 := HC.out _ _ hg.2.2
          have hfd := findT_drop c k (by rw [tbl_len]; exact hlt)
          obtain ⟨⟨x, y, z⟩, ht⟩ : ∃ t, tbl.getD k (0, 0, 0) = t := ⟨_, rfl⟩
          rw [ht] at d0 d1 d2 hfd
          simp only at d0 d1 d2 hfd
          have HFD := Lib.hid hfd
          clear hfd hg ht
          by_cases h1 : x ≤ c
          · by_cases h2 : c ≤ y
            · have HR : Hid (findT c tbl = z) := by show _ = _; rw [← HF.out, HFD.out, if_pos ⟨h1, h2⟩]
              go_wp2
              go_ret
              exact ⟨ret_int (by rw [HR.out]), B1.out⟩
            · have HR : Hid (findT c (tbl.drop (k + 1)) = findT c tbl) := by show _ = _; rw [← HF.out, HFD.out, if_neg (by omega)]
              go_wp2
              go_round
              case rel => exact ⟨k + 1, by go_num, by omega, HR⟩
              case measure => simp [intOf]; omega
          · have HR : Hid (findT c (tbl.drop (k + 1)) = findT c tbl) := by show _ = _; rw [← HF.out, HFD.out, if_neg (by omega)]
            go_wp2
            go_round
            case rel => exact ⟨k + 1, by go_num, by omega, HR⟩
            case measure => simp [intOf]; omega
        · have HR : Hid (findT c tbl = 0) := by
            show _ = _
            rw [← HF.out, show k = 66 by omega]; rfl
          go_wp2
          go_ret
          exact ⟨ret_int (by rw [HR.out]), B1.out⟩

end Go.Proofs.YtaocnnebfnlgiaaDoor
