/-
  The walk of HistoryOld: it answers true.
-/
import Derived.Test.YtilblnolfcbdlaaHistRunsW
namespace Go.Proofs.Ytilblnolfcbdlaa
open Go.RowKit

/-- The last n of a list. -/
def lastN (n : Nat) (l : List Int) : List Int := l.drop (l.length - n)
theorem lastN_len (n : Nat) (l : List Int) : (lastN n l).length = min n l.length := by unfold lastN; simp; omega
theorem lastN_push (n : Nat) (l : List Int) (s : Int) (hn : 1 ≤ n) : pushL n (lastN n l) s = lastN n (l ++ [s]) := by
  unfold pushL
  rw [lastN_len]
  unfold lastN
  by_cases h : n ≤ l.length
  · rw [if_pos (by omega)]
    have e1 : (l ++ [s]).length - n = (l.length - n) + 1 := by simp; omega
    rw [e1, ← List.drop_append_of_le_length (by omega), List.drop_drop]
  · rw [if_neg (by omega)]
    have e1 : l.length - n = 0 := by omega
    have e2 : (l ++ [s]).length - n = 0 := by simp; omega
    rw [e1, e2]; rfl
theorem take_snoc_int (l : List Int) (k : Nat) (h : k < l.length) : l.take (k + 1) = l.take k ++ [l.getD k 0] := by
  rw [List.take_succ_eq_append_getElem h]; simp [h]
def iotaL (k : Nat) : List Int := (List.range k).map (fun i : Nat => (i : Int))
theorem iotaL_succ (k : Nat) : iotaL (k + 1) = iotaL k ++ [(k : Int)] := by simp [iotaL, List.range_succ]
theorem iotaL_len (k : Nat) : (iotaL k).length = k := by simp [iotaL]
/-- What is left behind after i undos. -/
def undoL (n : Nat) (l : List Int) (i : Nat) : List Int := (lastN n l).take (min n l.length - i)
theorem undoL_step (n : Nat) (l : List Int) (i : Nat) (hi : i < min n l.length) : undoL n l i = undoL n l (i + 1) ++ [l.getD (l.length - 1 - i) 0] := by
  unfold undoL
  have e : min n l.length - i = (min n l.length - (i + 1)) + 1 := by omega
  rw [e, take_snoc_int _ _ (by rw [lastN_len]; omega)]
  congr 2
  unfold lastN
  simp only [List.getD_eq_getElem?_getD, List.getElem?_drop]
  congr 2
  omega

/-- Either nothing, or an address with its cells. -/
theorem IsInts.form {w : World} {A : Option Addr} {n c : Nat} {l : List Int} (h : IsInts w (.slice A n c) l) : n = l.length ∧ n ≤ c ∧ c ≤ 9223372036854775807 ∧
    (n ≤ 0 ∨ ∃ ab ao, A = some ⟨ab, ao, none⟩ ∧ ab < w.heap.size ∧ Hid (∀ j, j < n → w.cell? ⟨ab, ao + j, none⟩ = some (.int .i64 (l.getD j 0)))) := by
  obtain ⟨A', c', he, h0, h1, h2⟩ := h
  injection he with e1 e2 e3
  subst e1; subst e2; subst e3
  refine ⟨rfl, h0, h1, ?_⟩
  rcases Nat.eq_zero_or_pos l.length with h | h
  · exact .inl (by omega)
  · obtain ⟨b, off, rfl, hc⟩ := h2 h
    have := World.block_lt_of_cell? w _ (hc 0 h)
    exact .inr ⟨b, off, rfl, this, hc⟩

set_option maxHeartbeats 4000000 in
theorem historyOld_walk (cap : Int) (v : Value) (l : List Int) (w : World) (hc0 : -9223372036854775808 ≤ cap) (hc1 : cap ≤ 9223372036854775807) (hl : IsInts w v l)
    (_hb : ∀ x ∈ l, -9223372036854775808 ≤ x ∧ x ≤ 9223372036854775807) (hll : l.length ≤ 9223372036854775807) :
    Calls Try.prog 6 #[.int .i64 cap, v] w fun e w' => e = .returned (.bool true) ∧ Below w.heap.size w w' := by
  obtain ⟨m, hm, hm1⟩ := around_nat cap 6 (by omega)
  have HM := Lib.hid hm
  clear hm _hb
  obtain ⟨A, c, rfl, hlc, hcm, _⟩ := id hl
  obtain ⟨_, _, _, hform⟩ := hl.form
  clear hl
  rcases hform with hz | ⟨ab, ao, rfl, hab, HC⟩
  all_goals
    go_enter Try.func6, Try.ntmps6
    go_wp2_with fail
    refine (around_any cap 6 w hc0 hc1 (by omega) (by omega)).mono ?_
    rintro e w' ⟨rfl, rfl⟩
    rw [HM.out]
    go_wp2_with fail
    refine (new_int w (1 + (m : Int)) (1 + m) (by omega) (by omega) (by omega)).mono ?_
    rintro e w1 ⟨rfl, h1, b1⟩
    have HS : Hid (w.heap.size ≤ w1.heap.size) := b1.size
    have HBW := aside b1
    obtain ⟨B, hB⟩ : ∃ B, w.heap.size = B := ⟨_, rfl⟩
    have HB := Lib.hid hB
    rw [hB] at h1 b1 ⊢
    clear hB
    have B1 := aside b1
    have H1 := aside h1
    clear b1 h1
    go_wp2_with fail
    generalize hp : (min (l.length : Int) 12).toNat = p
    have hp12 : p ≤ 12 := by omega
    have hpl : p ≤ l.length := by omega
    obtain ⟨own, hown⟩ : ∃ own, l.take p = own := ⟨_, rfl⟩
    have HOL : Hid (own.length = p) := by rw [← hown]; show _ = _; simp; omega
    have HOG : Hid (∀ j, j < p → own.getD j 0 = l.getD j 0) := by
      intro j hj
      rw [← hown]
      simp only [List.getD_eq_getElem?_getD, List.getElem?_take]
      rw [if_pos hj]
    clear hp hown
    go_loopw [9] (fun i wr => ∃ k : Nat, i = .int .i64 k ∧ k ≤ p ∧ Aside (Hist wr (fun _ => False) B (1 + m) (lastN (1 + m) (own.take k)) [] 0) ∧ Aside (Fr (fun _ => False) B w1 wr)) (fun i _ => p - (intOf i).toNat)
    case atStart => exact ⟨0, rfl, by omega, by simpa [lastN] using H1, Fr.refl _ _ _⟩
    case round =>
      obtain ⟨k, rfl, hk, H2, F2⟩ := hrel
      have HBWR : Hid (Below w.heap.size w wr) := HBW.out.trans ((F2.out.below (by have := HS.out; have := HB.out; omega)).mono (by have := HB.out; omega))
      by_cases hlt : k < p
      · first
          | (exfalso; omega)
          | (have hck : wr.cell? ⟨ab, ao + k, none⟩ = some (.int .i64 (own.getD k 0)) := by
               rw [HBWR.out.cell (p := ⟨ab, ao + k, none⟩) hab, HC.out k (by omega), HOG.out k hlt]
             obtain ⟨x, hx⟩ : ∃ x, own.getD k 0 = x := ⟨_, rfl⟩
             rw [hx] at hck
             have HX := Lib.hid hx
             clear hx
             go_wp2_with fail
             refine (note_any _ B (1 + m) _ [] _ wr x 0 H2.out (no_X _) (by rw [lastN_len]; omega) (by omega)).mono ?_
             rintro e w3 ⟨rfl, h3, f3⟩
             have H3 : Aside (Hist w3 (fun _ => False) B (1 + m) (lastN (1 + m) (own.take (k + 1))) [] 0) := aside (by
               rw [take_snoc_int own k (by have := HOL.out; omega), HX.out, ← lastN_push _ _ _ (by omega)]
               simpa [noteL] using h3)
             have F3 := aside (F2.out.trans f3)
             clear h3 f3 hck
             go_wp2
             go_roundw
             case rel => exact ⟨k + 1, by go_num, by omega, H3, F3⟩
             case measure => simp [intOf]; omega)
      · obtain ⟨kk, hkk⟩ : ∃ kk : Nat, min (1 + (m : Int)) (p : Int) = (kk : Int) := ⟨min (1 + m) p, by omega⟩
        have hkk1 : kk = min (1 + m) p := by omega
        have HKK := Lib.hid hkk
        have HK1 := Lib.hid hkk1
        have hkp : kk ≤ p := by omega
        clear hkk hkk1
        have H3 : Aside (Hist wr (fun _ => False) B (1 + m) (undoL (1 + m) own 0) (iotaL 0) 0) := aside (by
          have h2 := H2.out
          have e1 : own.take k = own := List.take_of_length_le (by have := HOL.out; omega)
          rw [e1] at h2
          have e2 : undoL (1 + m) own 0 = lastN (1 + m) own := by unfold undoL; exact List.take_of_length_le (by rw [lastN_len]; omega)
          rw [e2]
          exact h2)
        clear H2
        go_wp2_with fail
        rw [HKK.out]
        go_loopw [11] (fun i wr => ∃ k : Nat, i = .int .i64 k ∧ k ≤ kk ∧ Aside (Hist wr (fun _ => False) B (1 + m) (undoL (1 + m) own k) (iotaL k) 0) ∧ Aside (Fr (fun _ => False) B w1 wr)) (fun i _ => kk - (intOf i).toNat)
        case atStart => exact ⟨0, rfl, by omega, H3, F2⟩
        case round =>
          obtain ⟨j, rfl, hj, H4, F4⟩ := hrel
          by_cases hlt2 : j < kk
          · first
              | (exfalso; omega)
              | (obtain ⟨x, hx⟩ : ∃ x, own.getD (p - 1 - j) 0 = x := ⟨_, rfl⟩
                 have HX := Lib.hid hx
                 clear hx
                 go_wp2_with fail
                 refine (undo_some _ B (1 + m) (undoL (1 + m) own (j + 1)) (iotaL j) _ _ j x (by
                   have h4 := H4.out
                   rw [undoL_step (1 + m) own j (by have := HOL.out; have := HK1.out; omega), HOL.out, HX.out] at h4
                   exact h4) (no_X _) (by rw [iotaL_len]; omega)).mono ?_
                 rintro e w5 ⟨rfl, h5, f5⟩
                 rw [← iotaL_succ] at h5
                 have H5 := aside h5
                 have F5 := aside (F4.out.trans f5)
                 have HB5 : Hid (Below w.heap.size w w5) := HBW.out.trans ((F5.out.below (by have := HS.out; have := HB.out; omega)).mono (by have := HB.out; omega))
                 have hck : w5.cell? ⟨ab, ao + (p - 1 - j), none⟩ = some (.int .i64 x) := by
                   rw [HB5.out.cell (p := ⟨ab, ao + (p - 1 - j), none⟩) hab, HC.out (p - 1 - j) (by omega), ← HOG.out (p - 1 - j) (by omega), HX.out]
                 clear h5 f5
                 go_wp2
                 go_roundw
                 case rel => exact ⟨j + 1, by go_num, by omega, H5, F5⟩
                 case measure => simp [intOf]; omega)
          · obtain rfl : j = kk := by omega
            have h4 := H4.out
            rw [show undoL (1 + m) own j = [] by unfold undoL; rw [HOL.out, ← HK1.out, Nat.sub_self]; rfl] at h4
            have H5 := aside h4
            clear h4 H4
            go_wp2_with fail
            refine (undo_none _ B (1 + m) _ _ _ 5 H5.out).mono ?_
            rintro e w6 ⟨rfl, rfl⟩
            go_wp2_with fail
            refine (len_any _ B (1 + m) [] _ _ _ H5.out).mono ?_
            rintro e w7 ⟨rfl, n7, rfl⟩
            rw [iotaL_len]
            go_wp2_with fail
            refine (lives22 _).mono ?_
            rintro e w11 ⟨rfl, b11⟩
            go_wp2
            go_ret
            have hs1 := HS.out
            have heq := HB.out
            have hs9 := F4.out.size
            exact ⟨rfl, by rw [heq]; exact (B1.out.trans ((F4.out.drewN n7).below (by omega))).trans (b11.mono (by simp; omega))⟩

end Go.Proofs.Ytilblnolfcbdlaa
