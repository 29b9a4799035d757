/-
  The walk of HistoryClears: it answers true.
-/
import Derived.Test.YtilblnolfcbdlaaHistOldW
namespace Go.Proofs.Ytilblnolfcbdlaa
open Go.RowKit

/-- The state between the undos. -/
def ClS (B n : Nat) (w1 wr : World) (j : Nat) : Prop := ∃ beh ah, Hist wr (fun _ => False) B n beh ah 0 ∧ beh.length ≤ n ∧ ah.length + j ≤ 6 ∧ Fr (fun _ => False) B w1 wr
theorem pushL_len (n : Nat) (beh : List Int) (s : Int) (h : beh.length ≤ n) : (pushL n beh s).length = min (beh.length + 1) n := by
  unfold pushL
  split
  · simp; omega
  · simp; omega

set_option maxHeartbeats 4000000 in
theorem historyClears_walk (cap : Int) (v : Value) (l : List Int) (kq run : Int) (w : World) (hc0 : -9223372036854775808 ≤ cap) (hc1 : cap ≤ 9223372036854775807) (hl : IsInts w v l)
    (_hb : ∀ x ∈ l, -9223372036854775808 ≤ x ∧ x ≤ 9223372036854775807) (hll : l.length ≤ 9223372036854775807) (hk0 : -9223372036854775808 ≤ kq) (hk1 : kq ≤ 9223372036854775807) (hr0 : -9223372036854775808 ≤ run) (hr1 : run ≤ 9223372036854775807) :
    Calls Try.prog 8 #[.int .i64 cap, v, .int .i64 kq, .int .i64 run] w fun e w' => e = .returned (.bool true) ∧ Below w.heap.size w w' := by
  obtain ⟨m, hm, hm1⟩ := around_nat cap 6 (by omega)
  obtain ⟨q, hq, hq1⟩ := around_nat kq 7 (by omega)
  obtain ⟨r, hr, hr1'⟩ := around_nat run 3 (by omega)
  have HM := Lib.hid hm
  have HQ := Lib.hid hq
  have HR := Lib.hid hr
  clear hm hq hr _hb
  obtain ⟨A, c, rfl, hlc, hcm, _⟩ := id hl
  obtain ⟨_, _, _, hform⟩ := hl.form
  clear hl
  rcases hform with hz | ⟨ab, ao, rfl, hab, HC⟩
  all_goals
    go_enter Try.func8, Try.ntmps8
    go_wp2_with fail
    refine (around_any cap 6 w hc0 hc1 (by omega) (by omega)).mono ?_
    rintro e w' ⟨rfl, rfl⟩
    rw [HM.out]
    go_wp2_with fail
    refine (new_int w (1 + (m : Int)) (1 + m) (by omega) (by omega) (by omega)).mono ?_
    rintro e w1 ⟨rfl, h1, b1⟩
    have HS : Hid (w.heap.size ≤ w1.heap.size) := b1.size
    have HBW := aside b1
    obtain ⟨B, hB⟩ : ∃ B, w.heap.size = B := ⟨_, rfl⟩
    have HB := Lib.hid hB
    rw [hB] at h1 b1 ⊢
    clear hB
    have B1 := aside b1
    have H1 := aside h1
    clear b1 h1
    go_wp2_with fail
    go_loopw [12] (fun i wr => ∃ k : Nat, i = .int .i64 k ∧ k ≤ l.length ∧ k ≤ 6 ∧ Aside (Hist wr (fun _ => False) B (1 + m) (lastN (1 + m) (l.take k)) [] 0) ∧ Aside (Fr (fun _ => False) B w1 wr)) (fun i _ => 6 - (intOf i).toNat)
    case atStart => exact ⟨0, rfl, by omega, by omega, by simpa [lastN] using H1, Fr.refl _ _ _⟩
    case round =>
      obtain ⟨k, rfl, hk, hk6, H2, F2⟩ := hrel
      have HBWR : Hid (Below w.heap.size w wr) := HBW.out.trans ((F2.out.below (by have := HS.out; have := HB.out; omega)).mono (by have := HB.out; omega))
      by_cases hlt : k < l.length ∧ k < 6
      · obtain ⟨hlt1, hlt6⟩ := hlt
        first
          | (exfalso; omega)
          | (have hck : wr.cell? ⟨ab, ao + k, none⟩ = some (.int .i64 (l.getD k 0)) := by
               rw [HBWR.out.cell (p := ⟨ab, ao + k, none⟩) hab, HC.out k (by omega)]
             obtain ⟨x, hx⟩ : ∃ x, l.getD k 0 = x := ⟨_, rfl⟩
             rw [hx] at hck
             have HX := Lib.hid hx
             clear hx
             go_wp2_with fail
             refine (note_any _ B (1 + m) _ [] _ wr x 1 H2.out (no_X _) (by rw [lastN_len]; omega) (by omega)).mono ?_
             rintro e w3 ⟨rfl, h3, f3⟩
             have h3' := h3
             rw [show noteL (1 + m) (lastN (1 + m) (l.take k)) 0 x 1 = lastN (1 + m) (l.take (k + 1)) by
               rw [take_snoc_int l k (by omega), HX.out, ← lastN_push _ _ _ (by omega)]; simp [noteL]] at h3'
             have H3 := aside h3'
             have F3 := aside (F2.out.trans f3)
             clear h3 h3' f3 hck
             go_wp2_with fail
             refine (brk_any _ B (1 + m) _ [] _ _ H3.out).mono ?_
             rintro e w4 ⟨rfl, h4, f4⟩
             have H4 := aside h4
             have F4 := aside (F3.out.trans f4)
             clear h4 f4
             go_wp2
             go_roundw
             case rel => exact ⟨k + 1, by go_num, by omega, by omega, H4, F4⟩
             case measure => simp [intOf]; omega)
      · have HE : Hid (ClS B (1 + m) w1 wr q) := ⟨_, _, H2.out, by rw [lastN_len]; omega, by simp; omega, F2.out⟩
        have hor : (¬ k < l.length) ∨ (k < l.length ∧ ¬ k < 6) := by omega
        clear H2 F2 hlt
        rcases hor with hlt0 | ⟨hlt0, hlt6⟩
        all_goals try (exfalso; omega)
        all_goals
          go_wp2_with fail
          refine (around_any kq 7 wr hk0 hk1 (by omega) (by omega)).mono ?_
          rintro e w' ⟨rfl, rfl⟩
          rw [HQ.out]
          go_wp2_with fail
          obtain ⟨wo, hwo⟩ : ∃ wo : World, wo = wr := ⟨_, rfl⟩
          subst hwo
          go_loopw [13] (fun i wr => ∃ j : Nat, i = .int .i64 j ∧ j ≤ 6 ∧ Hid (ClS B (1 + m) w1 wr j)) (fun i _ => (intOf i).toNat)
          case atStart => exact ⟨q, rfl, by omega, HE⟩
          case round =>
            obtain ⟨j, rfl, hj, H5⟩ := hrel
            by_cases hj0 : 0 < j
            · obtain ⟨beh, ah, h5, hbl, hal, f5⟩ := H5.out
              clear H5
              rcases Nat.eq_zero_or_pos beh.length with hb0 | hb0
              · obtain rfl : beh = [] := List.eq_nil_of_length_eq_zero hb0
                go_wp2_with fail
                refine (undo_none _ B (1 + m) _ _ _ j h5).mono ?_
                rintro e w6 ⟨rfl, rfl⟩
                have H6 : Hid (ClS B (1 + m) w1 wr (j - 1)) := ⟨_, _, h5, hbl, by omega, f5⟩
                clear h5 f5 hb0 hbl hal
                go_wp2
                go_roundw
                case rel => exact ⟨j - 1, by go_num, by omega, H6⟩
                case measure => simp [intOf]; omega
              · obtain ⟨b', x, rfl⟩ := list_last beh hb0
                go_wp2_with fail
                refine (undo_some _ B (1 + m) _ _ _ _ j x h5 (no_X _) (by omega)).mono ?_
                rintro e w6 ⟨rfl, h6, f6⟩
                have H6 : Hid (ClS B (1 + m) w1 w6 (j - 1)) := ⟨_, _, h6, by simp at hbl; omega, by simp; omega, f5.trans f6⟩
                clear h5 f5 h6 f6 hb0 hbl hal
                go_wp2
                go_roundw
                case rel => exact ⟨j - 1, by go_num, by omega, H6⟩
                case measure => simp [intOf]; omega
            · obtain ⟨beh, ah, h5, hbl, hal, f5⟩ := H5.out
              clear H5
              have H5 := aside h5
              have F5 := aside f5
              have hal6 : ah.length ≤ 6 := by omega
              clear h5 f5 hal
              go_wp2_with fail
              refine (len_any _ B (1 + m) _ _ _ _ H5.out).mono ?_
              rintro e w7 ⟨rfl, n7, rfl⟩
              go_wp2_with fail
              refine (around_any run 3 _ hr0 hr1 (by omega) (by omega)).mono ?_
              rintro e w' ⟨rfl, rfl⟩
              rw [HR.out]
              go_wp2_with fail
              refine (note_any _ B (1 + m) beh ah 0 _ 9 r (by obtain ⟨vb, va, V⟩ := H5.out; exact ⟨vb, va, V.drewN _⟩) (no_X _) (by omega) (by omega)).mono ?_
              rintro e w8 ⟨rfl, h8, f8⟩
              rw [show noteL (1 + m) beh 0 9 r = pushL (1 + m) beh 9 by unfold noteL; rw [if_pos (by omega)]] at h8
              have F8 := aside ((F5.out.drewN n7).trans f8)
              have H8 := aside h8
              clear h8 f8
              go_wp2_with fail
              refine (len_any _ B (1 + m) _ [] _ _ H8.out).mono ?_
              rintro e w9 ⟨rfl, n9, rfl⟩
              rw [pushL_len _ _ _ hbl]
              go_wp2_with fail
              refine (redo_none _ B (1 + m) _ _ _ 1 (by obtain ⟨vb, va, V⟩ := H8.out; exact ⟨vb, va, V.drewN n9⟩)).mono ?_
              rintro e w6 ⟨rfl, rfl⟩
              go_wp2_with fail
              refine (clear_any _ B (1 + m) _ [] _ _ (by obtain ⟨vb, va, V⟩ := H8.out; exact ⟨vb, va, V.drewN n9⟩)).mono ?_
              rintro e w10 ⟨rfl, h10, f10⟩
              have F10 := aside ((F8.out.drewN n9).trans f10)
              have H10 := aside h10
              clear h10 f10
              go_wp2_with fail
              refine (len_any _ B (1 + m) _ [] _ _ H10.out).mono ?_
              rintro e w11 ⟨rfl, n11, rfl⟩
              have hmin : (((min (beh.length + 1) (1 + m) : Nat) : Int) == min ((beh.length : Int) + 1) (1 + (m : Int))) = true := by
                rw [beq_iff_eq]; omega
              go_wp2_with fail
              refine (lives22 _).mono ?_
              rintro e w12 ⟨rfl, b12⟩
              go_wp2
              go_ret
              have hs1 := HS.out
              have heq := HB.out
              have hs9 := F10.out.size
              exact ⟨rfl, by rw [heq]; exact (B1.out.trans ((F10.out.drewN n11).below (by omega))).trans (b12.mono (by simp; omega))⟩

end Go.Proofs.Ytilblnolfcbdlaa
