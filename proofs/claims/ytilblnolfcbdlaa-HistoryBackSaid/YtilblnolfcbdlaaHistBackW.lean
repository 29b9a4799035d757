/-
  The walk of HistoryBack: it answers true.
-/
import Derived.Test.YtilblnolfcbdlaaHistClearW
namespace Go.Proofs.Ytilblnolfcbdlaa
open Go.RowKit

/-- What the undos have told: from the p-th on backward, j of them. -/
def pathL (seq : List Int) (p : Nat) : Nat → List Int
  | 0 => []
  | j + 1 => pathL seq p j ++ [seq.getD (p - j) 0]
theorem pathL_len (seq : List Int) (p : Nat) : ∀ j, (pathL seq p j).length = j
  | 0 => rfl
  | j + 1 => by simp [pathL, pathL_len seq p j]
theorem pathL_get (seq : List Int) (p : Nat) : ∀ j i, i < j → (pathL seq p j).getD i 0 = seq.getD (p - i) 0
  | 0, i, h => by omega
  | j + 1, i, h => by
    have hl := pathL_len seq p j
    simp only [pathL, List.getD_eq_getElem?_getD]
    by_cases e : i = j
    · subst e
      rw [List.getElem?_append_right (by omega)]
      simp [hl]
    · rw [List.getElem?_append_left (by omega), ← List.getD_eq_getElem?_getD, pathL_get seq p j i (by omega), List.getD_eq_getElem?_getD]

/-- What is left behind after j undos of what was noted: the first p of seq. -/
def backL (n : Nat) (seq : List Int) (p j : Nat) : List Int := undoL n (seq.take p) j
theorem take_p_len (seq : List Int) (p : Nat) (h : p < seq.length) : (seq.take p).length = p := by simp; omega
theorem backL_len (n : Nat) (seq : List Int) (p j : Nat) (h : p < seq.length) : (backL n seq p j).length = min n p - j := by
  unfold backL undoL
  rw [List.length_take, lastN_len, take_p_len seq p h]
  omega
theorem backL_step (n : Nat) (seq : List Int) (p j : Nat) (h : p < seq.length) (hj : j < min n p) : backL n seq p j = backL n seq p (j + 1) ++ [seq.getD (p - (j + 1)) 0] := by
  unfold backL
  rw [undoL_step n (seq.take p) j (by rw [take_p_len seq p h]; exact hj), take_p_len seq p h]
  congr 2
  simp only [List.getD_eq_getElem?_getD, List.getElem?_take]
  rw [if_pos (by omega)]
  congr 2
  omega
theorem backL_push (n : Nat) (seq : List Int) (p r : Nat) (h : p < seq.length) (hr : 1 ≤ r) (hk : r ≤ min n p) : pushL n (backL n seq p r) (seq.getD (p - r) 0) = backL n seq p (r - 1) := by
  obtain ⟨r', rfl⟩ : ∃ r', r = r' + 1 := ⟨r - 1, by omega⟩
  rw [Nat.add_sub_cancel, backL_step n seq p r' h (by omega)]
  unfold pushL
  rw [if_neg (by rw [backL_len _ _ _ _ h]; omega)]

/-- The state while the undos run, r of them still done, the path of j. -/
def BkS (B n : Nat) (w1 wr : World) (pv : Value) (seq : List Int) (p j r : Nat) : Prop :=
  Hist wr (fun k => pv.ownBlock = some k) B n (backL n seq p r) (pathL seq p r) 0 ∧ wr.ownsRow B 3 1 pv j (ints (pathL seq p j)) ∧ Fr (fun _ => False) B w1 wr

set_option maxHeartbeats 8000000 in
theorem historyBack_walk (cap : Int) (v : Value) (l : List Int) (kq : Int) (w : World) (hc0 : -9223372036854775808 ≤ cap) (hc1 : cap ≤ 9223372036854775807) (hl : IsInts w v l)
    (_hb : ∀ x ∈ l, -9223372036854775808 ≤ x ∧ x ≤ 9223372036854775807) (hll : l.length ≤ 9223372036854775807) (hk0 : -9223372036854775808 ≤ kq) (hk1 : kq ≤ 9223372036854775807) :
    Calls Try.prog 7 #[.int .i64 cap, v, .int .i64 kq] w fun e w' => e = .returned (.bool true) ∧ Below w.heap.size w w' := by
  obtain ⟨i0, hi, hz0, hz1, hz2⟩ := info_parts info_int2
  obtain ⟨m, hm, hm1⟩ := around_nat cap 6 (by omega)
  obtain ⟨q, hq, hq1⟩ := around_nat kq 10 (by omega)
  have HM := Lib.hid hm
  have HQ := Lib.hid hq
  clear hm hq _hb
  obtain ⟨seq, hseq⟩ : ∃ seq, seq = (0 : Int) :: l := ⟨_, rfl⟩
  have HSQ := Lib.hid hseq
  have HSLEN : Hid (seq.length = l.length + 1) := by rw [hseq]; rfl
  clear hseq
  obtain ⟨A, c, rfl, hlc, hcm, _⟩ := id hl
  obtain ⟨_, _, _, hform⟩ := hl.form
  clear hl
  rcases hform with hz | ⟨ab, ao, rfl, hab, HC⟩
  all_goals
    go_enter Try.func7, Try.ntmps7
    go_wp2_with fail
    refine (around_any cap 6 w hc0 hc1 (by omega) (by omega)).mono ?_
    rintro e w' ⟨rfl, rfl⟩
    rw [HM.out]
    go_wp2_with fail
    refine (new_int w (1 + (m : Int)) (1 + m) (by omega) (by omega) (by omega)).mono ?_
    rintro e w1 ⟨rfl, h1, b1⟩
    have HS : Hid (w.heap.size ≤ w1.heap.size) := b1.size
    have HBW := aside b1
    obtain ⟨B, hB⟩ : ∃ B, w.heap.size = B := ⟨_, rfl⟩
    have HB := Lib.hid hB
    rw [hB] at h1 b1 ⊢
    clear hB
    have B1 := aside b1
    have H1 := aside h1
    clear b1 h1
    go_wp2_with fail
    go_loopw [10, 11] (fun now i wr => ∃ k : Nat, i = .int .i64 k ∧ k ≤ l.length ∧ k ≤ 9 ∧ now = .int .i64 (seq.getD k 0) ∧ Aside (Hist wr (fun _ => False) B (1 + m) (lastN (1 + m) (seq.take k)) [] 0) ∧ Aside (Fr (fun _ => False) B w1 wr)) (fun _ i _ => 9 - (intOf i).toNat)
    case atStart => exact ⟨0, rfl, by omega, by omega, by rw [HSQ.out]; rfl, by simpa [lastN] using H1, Fr.refl _ _ _⟩
    case round =>
      obtain ⟨k, rfl, hk, hk9, rfl, H2, F2⟩ := hrel
      have HBWR : Hid (Below w.heap.size w wr) := HBW.out.trans ((F2.out.below (by have := HS.out; have := HB.out; omega)).mono (by have := HB.out; omega))
      by_cases hlt : k < l.length ∧ k < 9
      · obtain ⟨hlt1, hlt9⟩ := hlt
        first
          | (exfalso; omega)
          | (obtain ⟨x, hx⟩ : ∃ x, seq.getD k 0 = x := ⟨_, rfl⟩
             have HX := Lib.hid hx
             rw [hx]
             clear hx
             go_wp2_with fail
             refine (note_any _ B (1 + m) _ [] _ wr x 0 H2.out (no_X _) (by rw [lastN_len]; omega) (by omega)).mono ?_
             rintro e w3 ⟨rfl, h3, f3⟩
             have h3' := h3
             rw [show noteL (1 + m) (lastN (1 + m) (seq.take k)) 0 x 0 = lastN (1 + m) (seq.take (k + 1)) by
               rw [take_snoc_int seq k (by have := HSLEN.out; omega), HX.out, ← lastN_push _ _ _ (by omega)]; simp [noteL]] at h3'
             have H3 := aside h3'
             have F3 := aside (F2.out.trans f3)
             have HB3 : Hid (Below w.heap.size w w3) := HBW.out.trans ((F3.out.below (by have := HS.out; have := HB.out; omega)).mono (by have := HB.out; omega))
             have hck : w3.cell? ⟨ab, ao + k, none⟩ = some (.int .i64 (seq.getD (k + 1) 0)) := by
               rw [HB3.out.cell (p := ⟨ab, ao + k, none⟩) hab, HC.out k (by omega), HSQ.out]; simp
             obtain ⟨y, hy⟩ : ∃ y, seq.getD (k + 1) 0 = y := ⟨_, rfl⟩
             rw [hy] at hck
             have HY := Lib.hid hy
             clear h3 h3' f3 hy
             go_wp2
             go_roundw
             case rel => exact ⟨k + 1, by go_num, by omega, by omega, by rw [HY.out], H3, F3⟩
             case measure => simp [intOf]; omega)
      · have hor : (¬ k < l.length) ∨ (k < l.length ∧ ¬ k < 9) := by omega
        obtain ⟨p, rfl⟩ : ∃ p, p = k := ⟨_, rfl⟩
        have hpm9 : (p : Int) = min (l.length : Int) 9 := by omega
        have HPM := Lib.hid hpm9
        clear hpm9
        have HSL : Hid (p < seq.length) := by have := HSLEN.out; show p < seq.length; omega
        have HE : Hid (BkS B (1 + m) w1 wr (.slice none 0 0) seq p 0 0) := by
          refine ⟨?_, World.ownsRow_nil _ _ _ _, F2.out⟩
          have e2 : backL (1 + m) seq p 0 = lastN (1 + m) (seq.take p) := by unfold backL undoL; exact List.take_of_length_le (by rw [lastN_len]; omega)
          rw [e2]
          obtain ⟨vb, va, V⟩ := H2.out
          exact ⟨vb, va, V.more (fun k _ e => by simp [Value.ownBlock] at e)⟩
        clear H2 F2 hlt
        rcases hor with hlt0 | ⟨hlt0, hlt6⟩
        all_goals try (exfalso; omega)
        all_goals
          go_wp2_with fail
          refine (around_any kq 10 wr hk0 hk1 (by omega) (by omega)).mono ?_
          rintro e w' ⟨rfl, rfl⟩
          rw [HQ.out]
          go_wp2_with fail
          obtain ⟨wo, hwo⟩ : ∃ wo : World, wo = wr := ⟨_, rfl⟩
          subst hwo
          go_loopw [10, 13, 14] (fun now pv i wr => ∃ (pv0 : Value) (j r : Nat), pv0 = pv ∧ i = .int .i64 r ∧ r ≤ 9 ∧ j ≤ 9 ∧ Hid (j ≤ min (1 + m) p) ∧ now = .int .i64 (seq.getD (p - j) 0) ∧ Hid (BkS B (1 + m) w1 wr pv seq p j j)) (fun _ _ i _ => (intOf i).toNat)
          case atStart => exact ⟨_, 0, q, rfl, rfl, by omega, by omega, Nat.zero_le _, rfl, HE⟩
          case round =>
            obtain ⟨pv, j, r, rfl, rfl, hr9, hj9, HJK, rfl, HST⟩ := hrel
            by_cases hr0 : 0 < r
            · by_cases hjk : j < min (1 + m) p
              · first
                  | (exfalso; omega)
                  | (obtain ⟨h5, hp5, f5⟩ := HST.out
                     obtain ⟨now, hnow⟩ : ∃ now, seq.getD (p - j) 0 = now := ⟨_, rfl⟩
                     have HNOW := Lib.hid hnow
                     rw [hnow]
                     obtain ⟨x, hx⟩ : ∃ x, seq.getD (p - (j + 1)) 0 = x := ⟨_, rfl⟩
                     have HX := Lib.hid hx
                     rw [backL_step _ _ _ _ HSL.out hjk, hx] at h5
                     clear hnow hx
                     clear HST
                     go_wp2_with fail
                     refine (undo_some _ B (1 + m) _ _ _ _ now x h5 (fun k hk => (hp5.lt k hk).2) (by rw [pathL_len]; omega)).mono ?_
                     rintro e w6 ⟨rfl, h6, f6⟩
                     have hp6 := f6.own hp5 (fun g e => .inr e)
                     have F6 := aside (f5.trans (f6.mono (fun _ h => h.elim)))
                     have hB6 : Hid (B ≤ w6.heap.size) := by have := HS.out; have := HB.out; have := F6.out.size; show B ≤ _; omega
                     rw [← HNOW.out, show pathL seq p j ++ [seq.getD (p - j) 0] = pathL seq p (j + 1) from rfl] at h6
                     have H6 := aside h6
                     have P6 := aside hp6
                     clear h5 hp5 f5 h6 f6
                     go_wp2_with (first
                       | (at_builtin
                          refine wpList_append_lies _ rfl _ _ 27 rfl B 3 i0 (.int .i64 0) 1 8 Try.underlying27 hi hz0 hz1 hz2 rfl (by decide) _ _ _ rfl (hp6.alloc _) ⟨w6.heap.size, 0, none⟩ 1 1 [.int .i64 now] rfl rfl (cell_one_new _ _ _) (fun x hx => by simp at hx; subst hx; rfl) (by decide) (by unfold maxLen; omega) (by omega) (by have := hB6.out; simp; omega) _ rfl ?_
                          intro g c2 w8 hown hgrow hat hlt8
                          have H8 : Hid (BkS B (1 + m) w1 w8 (.slice (some ⟨g, 0, none⟩) (j + 1) c2) seq p (j + 1) (j + 1)) := by
                            refine ⟨?_, ?_, (F6.out.alloc _).grown hgrow (fun k e => ⟨(P6.out.lt k e).1, fun h => h⟩)⟩
                            · obtain ⟨vb, va, V⟩ := H6.out
                              have V2 := V.more (X' := fun k => pv.ownBlock = some k ∨ g = k) (fun k hk hx => by
                                rcases hx with hx | hx
                                · exact hx
                                · subst hx
                                  rcases hat with e | e
                                  · exact e
                                  · simp at e; omega)
                              have V3 := V2.keep (w' := w8) (fun k hk hx => by
                                rw [hgrow.block k (by simp; omega) (fun e => hx (.inl e.symm)), Below.heap_alloc _ _ _ hk])
                              exact ⟨vb, va, V3.more (fun k _ e => .inr (by simpa [Value.ownBlock] using e))⟩
                            · rw [show pathL seq p (j + 1) = pathL seq p j ++ [seq.getD (p - j) 0] from rfl, HNOW.out, ints_append]
                              exact hown
                          clear hown hgrow hat hp6)
                       | fail)
                     go_roundw
                     case rel => exact ⟨_, j + 1, r - 1, rfl, by go_num, by omega, by omega, hjk, by rw [HX.out], H8⟩
                     case measure => simp [intOf]; omega)
              · obtain ⟨h5, _, _⟩ := HST.out
                have e0 : backL (1 + m) seq p j = [] := List.eq_nil_of_length_eq_zero (by rw [backL_len _ _ _ _ HSL.out]; have := HJK.out; omega)
                rw [e0] at h5
                go_wp2_with fail
                refine (undo_none _ B (1 + m) _ _ _ _ h5).mono ?_
                rintro e w6 ⟨rfl, rfl⟩
                clear h5 e0
                obtain ⟨h5, hp5, f5⟩ := HST.out
                have H5 := aside h5
                have F5 := aside f5
                have P5 := aside hp5
                have hX5 : Hid (∀ k, (fun k => pv.ownBlock = some k) k → k < wr.heap.size) := fun k hk => (P5.out.lt k hk).2
                clear h5 f5 hp5
                rcases P5.out.2 with ⟨rfl, hj0'⟩ | ⟨pg, pc, pcur, rfl, hpg, hpb, hpn, hpm, hps, hpt⟩
                · first
                    | (exfalso; omega)
                    | (obtain rfl : j = 0 := hj0'
                       have HST2 := HST
                       clear HST H5 F5 P5
                       go_wp2_with fail
                       obtain ⟨wq, hwq⟩ : ∃ wq : World, wq = wr := ⟨_, rfl⟩
                       subst hwq
                       go_loopw [10, 17] (fun now i wr => ∃ r : Nat, i = .int .i64 ((r : Int) - 1) ∧ r ≤ 0 ∧ now = .int .i64 (seq.getD (p - r) 0) ∧ Hid (BkS B (1 + m) w1 wr (.slice none 0 0) seq p 0 r)) (fun _ i _ => (intOf i + 1).toNat)
                       case atStart => exact ⟨0, by first | rfl | go_num, Nat.le_refl _, by first | rfl | simp, HST2⟩
                       case round =>
                         obtain ⟨r, rfl, hr, rfl, H6⟩ := hrel
                         by_cases hr1 : 1 ≤ r
                         · first
                             | (exfalso; omega)
                             | (obtain ⟨h6, hp6, f6⟩ := H6.out
                                clear H6
                                obtain ⟨x, hx⟩ : ∃ x, seq.getD (p - (r - 1)) 0 = x := ⟨_, rfl⟩
                                have HX := Lib.hid hx
                                clear hx
                                obtain ⟨now, hnow⟩ : ∃ now, seq.getD (p - r) 0 = now := ⟨_, rfl⟩
                                have HNOW := Lib.hid hnow
                                rw [hnow]
                                clear hnow
                                have e1 : pathL seq p r = pathL seq p (r - 1) ++ [x] := by
                                  obtain ⟨r', rfl⟩ : ∃ r', r = r' + 1 := ⟨r - 1, by omega⟩
                                  rw [← HX.out]; simp [pathL]
                                rw [e1] at h6
                                clear e1
                                go_wp2_with fail
                                refine (redo_some _ B (1 + m) (backL (1 + m) seq p r) (pathL seq p (r - 1)) 0 _ now x h6 (fun k hk => (hp6.lt k hk).2) (by rw [backL_len _ _ _ _ HSL.out]; omega) (by omega)).mono ?_
                                rintro e w7 ⟨rfl, h7, f7⟩
                                rw [← HNOW.out, backL_push _ _ _ _ HSL.out hr1 (by have := HJK.out; omega)] at h7
                                have hp7 : w7.ownsRow B 3 1 _ _ _ := f7.own hp6 (fun g e => .inr e)
                                have hck : w7.cell? ⟨pg, r - 1, none⟩ = some (.int .i64 x) := by
                                  rw [hp7.cellAt (r - 1) (by omega), ints_get _ _ (by rw [pathL_len]; omega), pathL_get _ _ _ _ (by omega), HX.out]
                                have H7 : Hid (BkS B (1 + m) w1 w7 (.slice none 0 0) seq p 0 (r - 1)) := ⟨h7, hp7, f6.trans (f7.mono (fun _ h => h.elim))⟩
                                clear h6 hp6 f6 h7 hp7 f7
                                have hri : (0 : Int) ≤ (r : Int) - 1 := by omega
                                have hrn : ((r : Int) - 1).toNat = r - 1 := by omega
                                go_wp2
                                go_roundw
                                case rel => exact ⟨r - 1, by go_num, by omega, by rw [HX.out], H7⟩
                                case measure => simp [intOf]; omega)
                         · obtain rfl : r = 0 := by omega
                           obtain ⟨h6, hp6, f6⟩ := H6.out
                           have F6 := aside f6
                           clear H6 hp6 f6
                           go_wp2_with fail
                           refine (len_any _ B (1 + m) _ _ _ _ h6).mono ?_
                           rintro e w7 ⟨rfl, n7, rfl⟩
                           rw [backL_len _ _ _ _ HSL.out, pathL_len]
                           clear h6
                           have hmin : (((min (1 + m) p - 0 : Nat) : Int) == min (1 + (m : Int)) (min (l.length : Int) 9)) = true := beq_iff_eq.2 (by have := HPM.out; omega)
                           go_wp2_with fail
                           refine (lives22 _).mono ?_
                           rintro e w12 ⟨rfl, b12⟩
                           go_wp2
                           go_ret
                           have hs1 := HS.out
                           have heq := HB.out
                           have hs9 := F6.out.size
                           exact ⟨rfl, by rw [heq]; exact (B1.out.trans ((F6.out.drewN n7).below (by omega))).trans (b12.mono (by simp; omega))⟩)
                · have HST2 := HST
                  have hpm' : pc ≤ 9223372036854775807 := hpm
                  clear hpt hps hpb hpg hpm HST H5 F5 P5
                  go_wp2_with fail
                  obtain ⟨wq, hwq⟩ : ∃ wq : World, wq = wr := ⟨_, rfl⟩
                  subst hwq
                  go_loopw [10, 17] (fun now i wr => ∃ r : Nat, i = .int .i64 ((r : Int) - 1) ∧ r ≤ j ∧ now = .int .i64 (seq.getD (p - r) 0) ∧ Hid (BkS B (1 + m) w1 wr (.slice (some ⟨pg, 0, none⟩) j pc) seq p j r)) (fun _ i _ => (intOf i + 1).toNat)
                  case atStart => exact ⟨j, by first | rfl | go_num, Nat.le_refl _, by first | rfl | simp, HST2⟩
                  case round =>
                    obtain ⟨r, rfl, hr, rfl, H6⟩ := hrel
                    by_cases hr1 : 1 ≤ r
                    · first
                        | (exfalso; omega)
                        | (obtain ⟨h6, hp6, f6⟩ := H6.out
                           clear H6
                           obtain ⟨x, hx⟩ : ∃ x, seq.getD (p - (r - 1)) 0 = x := ⟨_, rfl⟩
                           have HX := Lib.hid hx
                           clear hx
                           obtain ⟨now, hnow⟩ : ∃ now, seq.getD (p - r) 0 = now := ⟨_, rfl⟩
                           have HNOW := Lib.hid hnow
                           rw [hnow]
                           clear hnow
                           have e1 : pathL seq p r = pathL seq p (r - 1) ++ [x] := by
                             obtain ⟨r', rfl⟩ : ∃ r', r = r' + 1 := ⟨r - 1, by omega⟩
                             rw [← HX.out]; simp [pathL]
                           rw [e1] at h6
                           clear e1
                           go_wp2_with fail
                           refine (redo_some _ B (1 + m) (backL (1 + m) seq p r) (pathL seq p (r - 1)) 0 _ now x h6 (fun k hk => (hp6.lt k hk).2) (by rw [backL_len _ _ _ _ HSL.out]; omega) (by omega)).mono ?_
                           rintro e w7 ⟨rfl, h7, f7⟩
                           rw [← HNOW.out, backL_push _ _ _ _ HSL.out hr1 (by have := HJK.out; omega)] at h7
                           have hp7 : w7.ownsRow B 3 1 _ _ _ := f7.own hp6 (fun g e => .inr e)
                           have hck : w7.cell? ⟨pg, r - 1, none⟩ = some (.int .i64 x) := by
                             rw [hp7.cellAt (r - 1) (by omega), ints_get _ _ (by rw [pathL_len]; omega), pathL_get _ _ _ _ (by omega), HX.out]
                           have H7 : Hid (BkS B (1 + m) w1 w7 (.slice (some ⟨pg, 0, none⟩) j pc) seq p j (r - 1)) := ⟨h7, hp7, f6.trans (f7.mono (fun _ h => h.elim))⟩
                           clear h6 hp6 f6 h7 hp7 f7
                           have hri : (0 : Int) ≤ (r : Int) - 1 := by omega
                           have hrn : ((r : Int) - 1).toNat = r - 1 := by omega
                           go_wp2
                           go_roundw
                           case rel => exact ⟨r - 1, by go_num, by omega, by rw [HX.out], H7⟩
                           case measure => simp [intOf]; omega)
                    · obtain rfl : r = 0 := by omega
                      obtain ⟨h6, hp6, f6⟩ := H6.out
                      have F6 := aside f6
                      clear H6 hp6 f6
                      go_wp2_with fail
                      refine (len_any _ B (1 + m) _ _ _ _ h6).mono ?_
                      rintro e w7 ⟨rfl, n7, rfl⟩
                      rw [backL_len _ _ _ _ HSL.out, pathL_len]
                      clear h6
                      have hmin : (((min (1 + m) p - 0 : Nat) : Int) == min (1 + (m : Int)) (min (l.length : Int) 9)) = true := beq_iff_eq.2 (by have := HPM.out; omega)
                      go_wp2_with fail
                      refine (lives22 _).mono ?_
                      rintro e w12 ⟨rfl, b12⟩
                      go_wp2
                      go_ret
                      have hs1 := HS.out
                      have heq := HB.out
                      have hs9 := F6.out.size
                      exact ⟨rfl, by rw [heq]; exact (B1.out.trans ((F6.out.drewN n7).below (by omega))).trans (b12.mono (by simp; omega))⟩
            · obtain ⟨h5, hp5, f5⟩ := HST.out
              have H5 := aside h5
              have F5 := aside f5
              have P5 := aside hp5
              have hX5 : Hid (∀ k, (fun k => pv.ownBlock = some k) k → k < wr.heap.size) := fun k hk => (P5.out.lt k hk).2
              clear h5 f5 hp5
              rcases P5.out.2 with ⟨rfl, hj0'⟩ | ⟨pg, pc, pcur, rfl, hpg, hpb, hpn, hpm, hps, hpt⟩
              · obtain rfl : j = 0 := hj0'
                have HST2 := HST
                clear HST H5 F5 P5
                go_wp2_with fail
                obtain ⟨wq, hwq⟩ : ∃ wq : World, wq = wr := ⟨_, rfl⟩
                subst hwq
                go_loopw [10, 17] (fun now i wr => ∃ r : Nat, i = .int .i64 ((r : Int) - 1) ∧ r ≤ 0 ∧ now = .int .i64 (seq.getD (p - r) 0) ∧ Hid (BkS B (1 + m) w1 wr (.slice none 0 0) seq p 0 r)) (fun _ i _ => (intOf i + 1).toNat)
                case atStart => exact ⟨0, by first | rfl | go_num, Nat.le_refl _, by first | rfl | simp, HST2⟩
                case round =>
                  obtain ⟨r, rfl, hr, rfl, H6⟩ := hrel
                  by_cases hr1 : 1 ≤ r
                  · first
                      | (exfalso; omega)
                      | (obtain ⟨h6, hp6, f6⟩ := H6.out
                         clear H6
                         obtain ⟨x, hx⟩ : ∃ x, seq.getD (p - (r - 1)) 0 = x := ⟨_, rfl⟩
                         have HX := Lib.hid hx
                         clear hx
                         obtain ⟨now, hnow⟩ : ∃ now, seq.getD (p - r) 0 = now := ⟨_, rfl⟩
                         have HNOW := Lib.hid hnow
                         rw [hnow]
                         clear hnow
                         have e1 : pathL seq p r = pathL seq p (r - 1) ++ [x] := by
                           obtain ⟨r', rfl⟩ : ∃ r', r = r' + 1 := ⟨r - 1, by omega⟩
                           rw [← HX.out]; simp [pathL]
                         rw [e1] at h6
                         clear e1
                         go_wp2_with fail
                         refine (redo_some _ B (1 + m) (backL (1 + m) seq p r) (pathL seq p (r - 1)) 0 _ now x h6 (fun k hk => (hp6.lt k hk).2) (by rw [backL_len _ _ _ _ HSL.out]; omega) (by omega)).mono ?_
                         rintro e w7 ⟨rfl, h7, f7⟩
                         rw [← HNOW.out, backL_push _ _ _ _ HSL.out hr1 (by have := HJK.out; omega)] at h7
                         have hp7 : w7.ownsRow B 3 1 _ _ _ := f7.own hp6 (fun g e => .inr e)
                         have hck : w7.cell? ⟨pg, r - 1, none⟩ = some (.int .i64 x) := by
                           rw [hp7.cellAt (r - 1) (by omega), ints_get _ _ (by rw [pathL_len]; omega), pathL_get _ _ _ _ (by omega), HX.out]
                         have H7 : Hid (BkS B (1 + m) w1 w7 (.slice none 0 0) seq p 0 (r - 1)) := ⟨h7, hp7, f6.trans (f7.mono (fun _ h => h.elim))⟩
                         clear h6 hp6 f6 h7 hp7 f7
                         have hri : (0 : Int) ≤ (r : Int) - 1 := by omega
                         have hrn : ((r : Int) - 1).toNat = r - 1 := by omega
                         go_wp2
                         go_roundw
                         case rel => exact ⟨r - 1, by go_num, by omega, by rw [HX.out], H7⟩
                         case measure => simp [intOf]; omega)
                  · obtain rfl : r = 0 := by omega
                    obtain ⟨h6, hp6, f6⟩ := H6.out
                    have F6 := aside f6
                    clear H6 hp6 f6
                    go_wp2_with fail
                    refine (len_any _ B (1 + m) _ _ _ _ h6).mono ?_
                    rintro e w7 ⟨rfl, n7, rfl⟩
                    rw [backL_len _ _ _ _ HSL.out, pathL_len]
                    clear h6
                    have hmin : (((min (1 + m) p - 0 : Nat) : Int) == min (1 + (m : Int)) (min (l.length : Int) 9)) = true := beq_iff_eq.2 (by have := HPM.out; omega)
                    go_wp2_with fail
                    refine (lives22 _).mono ?_
                    rintro e w12 ⟨rfl, b12⟩
                    go_wp2
                    go_ret
                    have hs1 := HS.out
                    have heq := HB.out
                    have hs9 := F6.out.size
                    exact ⟨rfl, by rw [heq]; exact (B1.out.trans ((F6.out.drewN n7).below (by omega))).trans (b12.mono (by simp; omega))⟩
              · have HST2 := HST
                have hpm' : pc ≤ 9223372036854775807 := hpm
                clear hpt hps hpb hpg hpm HST H5 F5 P5
                go_wp2_with fail
                obtain ⟨wq, hwq⟩ : ∃ wq : World, wq = wr := ⟨_, rfl⟩
                subst hwq
                go_loopw [10, 17] (fun now i wr => ∃ r : Nat, i = .int .i64 ((r : Int) - 1) ∧ r ≤ j ∧ now = .int .i64 (seq.getD (p - r) 0) ∧ Hid (BkS B (1 + m) w1 wr (.slice (some ⟨pg, 0, none⟩) j pc) seq p j r)) (fun _ i _ => (intOf i + 1).toNat)
                case atStart => exact ⟨j, by first | rfl | go_num, Nat.le_refl _, by first | rfl | simp, HST2⟩
                case round =>
                  obtain ⟨r, rfl, hr, rfl, H6⟩ := hrel
                  by_cases hr1 : 1 ≤ r
                  · first
                      | (exfalso; omega)
                      | (obtain ⟨h6, hp6, f6⟩ := H6.out
                         clear H6
                         obtain ⟨x, hx⟩ : ∃ x, seq.getD (p - (r - 1)) 0 = x := ⟨_, rfl⟩
                         have HX := Lib.hid hx
                         clear hx
                         obtain ⟨now, hnow⟩ : ∃ now, seq.getD (p - r) 0 = now := ⟨_, rfl⟩
                         have HNOW := Lib.hid hnow
                         rw [hnow]
                         clear hnow
                         have e1 : pathL seq p r = pathL seq p (r - 1) ++ [x] := by
                           obtain ⟨r', rfl⟩ : ∃ r', r = r' + 1 := ⟨r - 1, by omega⟩
                           rw [← HX.out]; simp [pathL]
                         rw [e1] at h6
                         clear e1
                         go_wp2_with fail
                         refine (redo_some _ B (1 + m) (backL (1 + m) seq p r) (pathL seq p (r - 1)) 0 _ now x h6 (fun k hk => (hp6.lt k hk).2) (by rw [backL_len _ _ _ _ HSL.out]; omega) (by omega)).mono ?_
                         rintro e w7 ⟨rfl, h7, f7⟩
                         rw [← HNOW.out, backL_push _ _ _ _ HSL.out hr1 (by have := HJK.out; omega)] at h7
                         have hp7 : w7.ownsRow B 3 1 _ _ _ := f7.own hp6 (fun g e => .inr e)
                         have hck : w7.cell? ⟨pg, r - 1, none⟩ = some (.int .i64 x) := by
                           rw [hp7.cellAt (r - 1) (by omega), ints_get _ _ (by rw [pathL_len]; omega), pathL_get _ _ _ _ (by omega), HX.out]
                         have H7 : Hid (BkS B (1 + m) w1 w7 (.slice (some ⟨pg, 0, none⟩) j pc) seq p j (r - 1)) := ⟨h7, hp7, f6.trans (f7.mono (fun _ h => h.elim))⟩
                         clear h6 hp6 f6 h7 hp7 f7
                         have hri : (0 : Int) ≤ (r : Int) - 1 := by omega
                         have hrn : ((r : Int) - 1).toNat = r - 1 := by omega
                         go_wp2
                         go_roundw
                         case rel => exact ⟨r - 1, by go_num, by omega, by rw [HX.out], H7⟩
                         case measure => simp [intOf]; omega)
                  · obtain rfl : r = 0 := by omega
                    obtain ⟨h6, hp6, f6⟩ := H6.out
                    have F6 := aside f6
                    clear H6 hp6 f6
                    go_wp2_with fail
                    refine (len_any _ B (1 + m) _ _ _ _ h6).mono ?_
                    rintro e w7 ⟨rfl, n7, rfl⟩
                    rw [backL_len _ _ _ _ HSL.out, pathL_len]
                    clear h6
                    have hmin : (((min (1 + m) p - 0 : Nat) : Int) == min (1 + (m : Int)) (min (l.length : Int) 9)) = true := beq_iff_eq.2 (by have := HPM.out; omega)
                    go_wp2_with fail
                    refine (lives22 _).mono ?_
                    rintro e w12 ⟨rfl, b12⟩
                    go_wp2
                    go_ret
                    have hs1 := HS.out
                    have heq := HB.out
                    have hs9 := F6.out.size
                    exact ⟨rfl, by rw [heq]; exact (B1.out.trans ((F6.out.drewN n7).below (by omega))).trans (b12.mono (by simp; omega))⟩
end Go.Proofs.Ytilblnolfcbdlaa
