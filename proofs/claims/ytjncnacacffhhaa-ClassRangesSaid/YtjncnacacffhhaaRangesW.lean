/-
  The walk of ClassRanges.
-/
import Derived.Test.YtjncnacacffhhaaEdge
import Derived.Test.YtjncnacacffhhaaRangesP
import Derived.Test.YtjncnacacffhhaaOwn
import Derived.Deep.DeepCutAuto
namespace Go.Proofs.Ytjncnacacffhhaa
open Go.RowKit

theorem tcells_len : ∀ t : List (Int × Int × Int), (tcells t).length = t.length * 3
  | [] => rfl
  | r :: t => by
    have ih := tcells_len t
    simp only [tcells, List.flatMap_cons, List.length_append, List.length_cons, List.length_nil] at ih ⊢
    omega
theorem tcells_append (a b : List (Int × Int × Int)) : tcells (a ++ b) = tcells a ++ tcells b := by simp [tcells]

/-- What was collected so far. -/
def wantU (k : Int) (j : Nat) : List (Int × Int × Int) := (tbl.take j).filter fun r => r.2.2 == k
theorem wantU_yes (k : Int) (j : Nat) (hj : j < 66) (x y z : Int) (ht : tbl.getD j (0, 0, 0) = (x, y, z)) (h : z = k) : wantU k (j + 1) = wantU k j ++ [(x, y, z)] := by
  have hl : j < tbl.length := by rw [tbl_len]; exact hj
  unfold wantU
  rw [List.take_succ_eq_append_getElem hl, List.filter_append]
  have e : tbl[j] = (x, y, z) := by rw [← ht]; simp [hl]
  rw [e]
  simp [List.filter_cons, h]
theorem wantU_no (k : Int) (j : Nat) (hj : j < 66) (x y z : Int) (ht : tbl.getD j (0, 0, 0) = (x, y, z)) (h : z ≠ k) : wantU k (j + 1) = wantU k j := by
  have hl : j < tbl.length := by rw [tbl_len]; exact hj
  unfold wantU
  rw [List.take_succ_eq_append_getElem hl, List.filter_append]
  have e : tbl[j] = (x, y, z) := by rw [← ht]; simp [hl]
  rw [e]
  simp [List.filter_cons, h]
theorem wantU_end (k : Int) : wantU k 66 = wantL k := by
  unfold wantU wantL
  rw [List.take_of_length_le (by rw [tbl_len]; omega)]
theorem wantU_le (k : Int) (j : Nat) (hj : j ≤ 66) : (wantU k j).length ≤ 66 := by
  unfold wantU
  refine Nat.le_trans (List.length_filter_le _ _) ?_
  simp; omega

theorem three_new (w : World) (x y z : Int) (t : TypeId) : ∀ (j : Nat) (u : Value), [Value.int .i64 x, .int .i64 y, .int .i64 z][j]? = some u → (w.alloc (.cells #[.int .i64 x, .int .i64 y, .int .i64 z] t)).cell? ((⟨w.heap.size, 0, none⟩ : Addr).add j) = some u := by
  intro j u h
  match j, h with
  | 0, h => simp at h; subst h; simp [Addr.add]
  | 1, h => simp at h; subst h; simp [Addr.add]
  | 2, h => simp at h; subst h; simp [Addr.add]
  | j + 3, h => simp at h

set_option maxRecDepth 100000 in
set_option maxHeartbeats 1000000 in
theorem ranges_out (k : Int) (w : World) (h : k < 0 ∨ 14 < k) : Calls Try.prog 10 #[.int .i64 k] w fun e w' => e = .returned (.slice none 0 0) ∧ Below w.heap.size w w' := by
  have n1 : ¬ k = 1 := by omega
  have n2 : ¬ k = 2 := by omega
  have n3 : ¬ k = 3 := by omega
  have n4 : ¬ k = 4 := by omega
  have n5 : ¬ k = 5 := by omega
  have n6 : ¬ k = 6 := by omega
  have n7 : ¬ k = 7 := by omega
  have n8 : ¬ k = 8 := by omega
  have n9 : ¬ k = 9 := by omega
  have n10 : ¬ k = 10 := by omega
  have n11 : ¬ k = 11 := by omega
  have n14 : ¬ k = 14 := by omega
  clear h
  go_enter Try.func10, Try.ntmps10
  go_wp2
  go_ret
  exact ⟨rfl, Below.refl _ _⟩

set_option maxRecDepth 100000 in
set_option maxHeartbeats 4000000 in
theorem classRanges_walk (k n side : Int) (w : World) (hk0 : -9223372036854775808 ≤ k) (hk1 : k ≤ 9223372036854775807) (h0 : -9223372036854775808 ≤ n) (h1 : n ≤ 9223372036854775807) (hs0 : -9223372036854775808 ≤ side) (hs1 : side ≤ 9223372036854775807) :
    Calls Try.prog 3 #[.int .i64 k, .int .i64 n, .int .i64 side] w fun e w' => e = .returned (.bool true) ∧ Below w.heap.size w w' := by
  obtain ⟨i0, hi, hz0, hz1, hz2⟩ := info_parts info_three
  obtain ⟨q, hq, hq1⟩ := around_nat k 15 (by omega)
  have HQ := Lib.hid hq
  clear hq
  have hq15 : q < 15 := by omega
  obtain ⟨c, hc⟩ : ∃ c, edgeI n side = c := ⟨_, rfl⟩
  have hcb := edgeI_bd n side
  rw [hc] at hcb
  obtain ⟨hcb0, hcb1⟩ := hcb
  have HC := Lib.hid hc
  clear hc
  obtain ⟨rs, hrs⟩ : ∃ rs, rng (q : Int) = rs := ⟨_, rfl⟩
  have HRL : Hid (rs.length ≤ 1000) := by show _ ≤ _; rw [← hrs]; exact rng_len _
  have HW : Hid (wantL (q : Int) = tag q rs) := by show _ = _; rw [← hrs]; exact wantL_rng _ (by omega) (by omega)
  have hso := rng_sorted (q : Int) (by omega) (by omega)
  rw [hrs] at hso
  have HS := Lib.hid hso
  have hfin := fin_eq (q : Int) c (by omega) (by omega)
  rw [hrs] at hfin
  have HF := Lib.hid hfin
  have HRS := Lib.hid hrs
  clear hrs hso hfin
  go_enter Try.func3, Try.ntmps3
  go_wp2_with fail
  refine (around_any k 15 w hk0 hk1 (by omega) (by omega)).mono ?_
  rintro e w' ⟨rfl, rfl⟩
  rw [HQ.out]
  go_wp2_with fail
  refine (ranges_any (q : Int) w).mono ?_
  rintro e w1 ⟨vr, rfl, hvr, b1⟩
  rw [HRS.out] at hvr
  have HVR := aside hvr
  have B1 := aside b1
  obtain ⟨Ar, hvr1, hvr2⟩ := hvr
  subst hvr1
  have HVR2 := aside hvr2
  clear hvr2 b1
  go_wp2_with fail
  refine (table_any w1).mono ?_
  rintro e w2 ⟨v, rfl, ⟨b, rfl, hb, hcell⟩, b2⟩
  have HCELL := Lib.hid hcell
  have B2 := aside b2
  clear hcell b2
  go_wp2_with fail
  go_loopw [9, 11] (fun v i wr => ∃ j : Nat, i = .int .i64 j ∧ j ≤ 66 ∧ Aside (wr.ownsRow w2.heap.size 27 3 v (wantU q j).length (tcells (wantU q j)) ∧ Below w2.heap.size w2 wr)) (fun _ i _ => 66 - (intOf i).toNat)
  case atStart => exact ⟨0, rfl, by omega, aside ⟨World.ownsRow_nil _ _ _ _, Below.refl _ _⟩⟩
  case round =>
    obtain ⟨j, rfl, hj, HX⟩ := hrel
    by_cases hlt : j < 66
    · have hg := tcells_get tbl j (by rw [tbl_len]; exact hlt)
      obtain ⟨⟨x, y, z⟩, ht⟩ : ∃ t, tbl.getD j (0, 0, 0) = t := ⟨_, rfl⟩
      rw [ht] at hg
      have d0 := HCELL.out _ _ hg.1
      have d1 := HCELL.out _ _ hg.2.1
      have d2 := HCELL.out _ _ hg.2.2
      rw [← HX.out.2.cell (p := ⟨b, j * 3, none⟩) hb] at d0
      rw [← HX.out.2.cell (p := ⟨b, j * 3 + 1, none⟩) hb] at d1
      rw [← HX.out.2.cell (p := ⟨b, j * 3 + 2, none⟩) hb] at d2
      have HT := Lib.hid ht
      clear hg ht
      simp only at d0 d1 d2
      by_cases hz : z = (q : Int)
      · have hz' : (z == (q : Int)) = true := by simpa using hz
        have HU := Lib.hid (wantU_yes q j hlt x y z HT.out hz)
        have hle := wantU_le q j hj
        have HZ := Lib.hid hz
        clear hz
        have hown := HX.out.1
        have hsz := HX.out.2.size
        go_wp2_with (first
          | (at_builtin; refine wpList_append_own _ rfl _ _ 25 rfl w2.heap.size 27 i0 (.agg #[.int .i64 0, .int .i64 0, .int .i64 0]) 3 24 Try.underlying25 hi hz0 hz1 hz2 rfl (by decide) _ _ _ rfl (hown.alloc _) ⟨wr.heap.size, 0, none⟩ 1 1 [.int .i64 x, .int .i64 y, .int .i64 z] rfl rfl (three_new _ _ _ _ _) (fun u hu => by simp at hu; rcases hu with rfl | rfl | rfl <;> rfl) (by unfold maxLen; omega) (by omega) (by simp; omega) ?_; intro v' w3 hown' hgrow3 hnil3
             have hb3 : Below w2.heap.size w2 w3 := Below.grown (HX.out.2.alloc (by omega) _) hgrow3 (by simp; omega) (fun j hj => by have := (hown.lt _ hj).1; omega)
             have X3 : Aside (w3.ownsRow w2.heap.size 27 3 v' ((wantU q j).length + 1) (tcells (wantU q j) ++ [.int .i64 x, .int .i64 y, .int .i64 z]) ∧ Below w2.heap.size w2 w3) := ⟨hown', hb3⟩
             clear hown' hgrow3 hnil3 hb3))
        go_roundw
        case rel =>
          refine ⟨j + 1, by go_num, by omega, ?_⟩
          rw [HU.out, List.length_append, tcells_append]
          exact X3
        case measure => simp [intOf]; omega
      · have hz' : (z == (q : Int)) = false := by simpa using hz
        have HU := Lib.hid (wantU_no q j hlt x y z HT.out hz)
        have HZ := Lib.hid hz
        clear hz
        go_wp2
        go_roundw
        case rel => exact ⟨j + 1, by go_num, by omega, by rw [HU.out]; exact HX⟩
        case measure => simp [intOf]; omega
    · have hju : Hid (wantU (q : Int) j = tag q rs) := by
        show _ = _
        rw [show j = 66 by omega, wantU_end]; exact HW.out
      have HX2 : Aside (wr.ownsRow w2.heap.size 27 3 u9 rs.length (tcells (tag q rs)) ∧ Below w2.heap.size w2 wr) := by
        have h := HX.out
        rw [hju.out] at h
        have e : (tag (q : Int) rs).length = rs.length := by simp [tag]
        rw [e] at h
        exact h
      have hform : ∃ Aw cw, u9 = .slice Aw rs.length cw := by
        rcases HX2.out.1.2 with ⟨h, h0⟩ | ⟨g, cap, cur, h, _⟩
        · exact ⟨none, 0, by rw [h, h0]⟩
        · exact ⟨_, cap, h⟩
      obtain ⟨Aw, cw, rfl⟩ := hform
      have hl1 : ((rs.length : Int) != (rs.length : Int)) = false := by simp
      have hkk : (k < 0 ∧ Hid True) ∨ (0 ≤ k ∧ 14 < k) ∨ (0 ≤ k ∧ k ≤ 14) := by
        by_cases h1 : k < 0
        · exact .inl ⟨h1, trivial⟩
        · by_cases h2 : 14 < k
          · exact .inr (.inl ⟨by omega, h2⟩)
          · exact .inr (.inr ⟨by omega, by omega⟩)
      have BW := aside (B1.out.trans ((B2.out.trans (HX2.out.2.mono B2.out.size)).mono B1.out.size))
      have HRO := Lib.hid (fun (h : k < 0 ∨ 14 < k) W => ranges_out k W h)
      go_upto_region 10 with fail
      go_cut [58] (fun t58 wx => t58 = .bool false ∧ Aside (Below w.heap.size w wx ∧ Below w1.heap.size w1 wx ∧ wx.ownsRow w2.heap.size 27 3 (.slice Aw rs.length cw) rs.length (tcells (tag q rs))))
      case first =>
        rcases hkk with ⟨hka, _⟩ | ⟨hka, hkb⟩ | ⟨hka, hkb⟩
        case' inr.inr => have X4 : Aside (Below w.heap.size w wr ∧ Below w1.heap.size w1 wr ∧ wr.ownsRow w2.heap.size 27 3 (.slice Aw rs.length cw) rs.length (tcells (tag q rs))) := ⟨BW.out, B2.out.trans (HX2.out.2.mono B2.out.size), HX2.out.1⟩
        all_goals
          go_wp2_with (first
            | (go_at_call 10
               refine (HRO.out (by omega) _).mono ?_
               rintro e w4 ⟨rfl, b4⟩
               have X4 : Aside (Below w.heap.size w w4 ∧ Below w1.heap.size w1 w4 ∧ w4.ownsRow w2.heap.size 27 3 (.slice Aw rs.length cw) rs.length (tcells (tag q rs))) := ⟨BW.out.trans (b4.mono BW.out.size), (B2.out.trans (HX2.out.2.mono B2.out.size)).trans (b4.mono (B2.out.trans (HX2.out.2.mono B2.out.size)).size), own_below HX2.out.1 b4 (Nat.le_refl _)⟩
               clear b4))
          go_meet
          exact ⟨rfl, X4⟩
      case rest =>
        obtain ⟨rfl, X4⟩ := hcut
        go_wp2_with fail
        refine (edge_any n side _ h0 h1 hs0 hs1).mono ?_
        rintro e w5 ⟨rfl, b5⟩
        rw [HC.out]
        have X5 : Aside (Below w.heap.size w w5 ∧ Below w1.heap.size w1 w5 ∧ w5.ownsRow w2.heap.size 27 3 (.slice Aw rs.length cw) rs.length (tcells (tag q rs))) := ⟨X4.out.1.trans (b5.mono X4.out.1.size), X4.out.2.1.trans (b5.mono X4.out.2.1.size), own_below X4.out.2.2 b5 (Nat.le_refl _)⟩
        clear b5 X4
        go_wp2_with fail
        have hnil : rs = [] ∨ ∃ br g, rs ≠ [] ∧ Ar = some ⟨br, 0, none⟩ ∧ Aw = some ⟨g, 0, none⟩ ∧ rs.length ≤ cw ∧ cw ≤ 9223372036854775807 ∧ Aside (∀ j u, (rcells rs)[j]? = some u → w5.cell? ⟨br, j, none⟩ = some u) ∧ Aside (∀ j u, (tcells (tag q rs))[j]? = some u → w5.cell? ⟨g, j, none⟩ = some u) := by
          by_cases h0 : rs = []
          · exact .inl h0
          · rcases HVR2.out with ⟨h, _⟩ | ⟨br, h, hbr, hcr⟩
            · exact .inl h
            · have ho := X5.out.2.2
              rcases ho.2 with ⟨h1, h2⟩ | ⟨g, cap, cur, h1, _, _, hc1, hc2, _⟩
              · exact absurd (List.eq_nil_of_length_eq_zero h2) h0
              · injection h1 with e1 e2 e3
                rw [e1, e3] at ho
                refine .inr ⟨br, g, h0, h, e1, by rw [e3]; exact hc1, by rw [e3]; exact hc2, fun j u hj => ?_, fun j u hj => ?_⟩
                · rw [X5.out.2.1.cell (p := ⟨br, j, none⟩) hbr]; exact hcr j u hj
                · rw [ho.cellAt j]
                  · exact hj
                  · have h3 := (List.getElem?_eq_some_iff.1 hj).1
                    rw [tcells_len] at h3
                    simpa [tag] using h3
        rcases hnil with rfl | ⟨br, g, hr0, rfl, rfl, hcw1, hcw2, HCR, HCT⟩
        · have HF0 := HF.out
          refine wp_loop_rounds 1 ?_
          rw [rounds_succ]
          go_wp2_with (first | (go_at_call 14; refine (lives02 _).mono ?_; rintro e w6 ⟨rfl, b6⟩))
          go_ret
          exact ⟨rfl, X5.out.1.trans (b6.mono X5.out.1.size)⟩
        · have hrl : rs.length ≤ 1000 := HRL.out
          go_loopw [13, 14] (fun m i wq => ∃ jj nd : Nat, i = .int .i64 jj ∧ jj ≤ rs.length ∧ wq = w5.drewN nd ∧ m = .int .i64 (cnt c (rs.take jj))) (fun _ i _ => rs.length - (intOf i).toNat)
          case atStart => exact ⟨0, 0, rfl, by omega, rfl, by simp [cnt]⟩
          case round =>
            obtain ⟨jj, nd, rfl, hjj, rfl, rfl⟩ := hrel
            have hcl := cnt_le c (rs.take jj)
            have hcl2 : (rs.take jj).length ≤ jj := List.length_take_le _ _
            by_cases hlt2 : jj < rs.length
            · have hcs := cnt_snoc c rs jj hlt2
              have hrg := rcells_get rs jj hlt2
              have htg := tcells_get (tag q rs) jj (by simpa [tag] using hlt2)
              have hso := HS.out.2 (rs.getD jj (0, 0)) (by rw [List.getD_eq_getElem?_getD, List.getElem?_eq_getElem hlt2]; exact List.getElem_mem hlt2)
              have htag : (tag (q : Int) rs).getD jj (0, 0, 0) = ((rs.getD jj (0, 0)).1, (rs.getD jj (0, 0)).2, (q : Int)) := by
                simp [tag, hlt2]
              rw [htag] at htg
              obtain ⟨⟨x, y⟩, hxy⟩ : ∃ t, rs.getD jj (0, 0) = t := ⟨_, rfl⟩
              rw [hxy] at hcs hrg htg hso
              simp only at hrg htg hso
              obtain ⟨hx0, hx1, hx2⟩ := hso
              have d0 := HCR.out _ _ hrg.1
              have d1 := HCR.out _ _ hrg.2
              have d2 := HCT.out _ _ htg.1
              have d3 := HCT.out _ _ htg.2.1
              rw [Nat.mul_comm 2 jj] at d0 d1
              have hb1 : decide (y < x) = false := by simp; omega
              have HCS := Lib.hid hcs
              obtain ⟨m, hm⟩ : ∃ m, cnt c (rs.take jj) = m := ⟨_, rfl⟩
              rw [hm] at hcl HCS ⊢
              have HXY := Lib.hid hxy
              clear hcs hrg htg htag hxy hm
              have hin : (x ≤ c ∧ c ≤ y ∧ Hid (cnt c (rs.take (jj + 1)) = m + 1)) ∨ (x ≤ c ∧ ¬ c ≤ y ∧ Hid (cnt c (rs.take (jj + 1)) = m)) ∨ (¬ x ≤ c ∧ Hid (cnt c (rs.take (jj + 1)) = m)) := by
                by_cases h1 : x ≤ c
                · by_cases h2 : c ≤ y
                  · exact .inl ⟨h1, h2, by show _ = _; rw [HCS.out, if_pos (by simp [inR, h1, h2])]⟩
                  · exact .inr (.inl ⟨h1, h2, by show _ = _; rw [HCS.out, if_neg (by simp [inR, h2])]; rfl⟩)
                · exact .inr (.inr ⟨h1, by show _ = _; rw [HCS.out, if_neg (by simp [inR, h1])]; rfl⟩)
              clear HCS
              have hjc : (decide ((0 : Int) < (jj : Int)) = false ∧ decide (0 < jj) = false) ∨ (∃ y' : Int, decide ((0 : Int) < (jj : Int)) = true ∧ decide (0 < jj) = true ∧ 1 ≤ jj ∧ w5.cell? ⟨br, (max ((jj : Int) - 1) 0).toNat * 2 + 1, none⟩ = some (.int .i64 y') ∧ decide (x ≤ y') = false) := by
                by_cases h : 0 < jj
                · obtain ⟨p, rfl⟩ : ∃ p, jj = p + 1 := ⟨jj - 1, by omega⟩
                  have hpp : p < rs.length := by omega
                  have hrg := rcells_get rs p hpp
                  refine .inr ⟨(rs.getD p (0, 0)).2, decide_eq_true (by omega), decide_eq_true h, h, ?_, ?_⟩
                  · have := HCR.out _ _ hrg.2
                    rw [Nat.mul_comm 2 p] at this
                    rw [show (max (((p + 1 : Nat) : Int) - 1) 0).toNat = p by omega]
                    exact this
                  · have hs := List.pairwise_iff_getElem.1 HS.out.1 p (p + 1) hpp hlt2 (by omega)
                    have e1 : rs.getD p (0, 0) = rs[p] := by simp [hpp]
                    have e2 : rs[p + 1] = (x, y) := by rw [← HXY.out]; simp [hlt2]
                    rw [e2] at hs
                    rw [e1]
                    simp at hs ⊢
                    omega
                · exact .inl ⟨decide_eq_false (by omega), decide_eq_false h⟩
              go_upto_region 17 with fail
              go_cut [123] (fun t123 wx => t123 = .bool false ∧ ∃ nd, wx = w5.drewN nd)
              case first =>
                rcases hjc with ⟨hg0, hg2⟩ | ⟨y', hg0, hg2, hjp, d4, hg1⟩
                · refine wp_region_quiet_lit (by kernel_rfl) (by kernel_rfl) ?_
                  repeat (go_big_quiet_step (fail))
                  refine wpQuiet_nil ?_
                  intro _ hw'
                  obtain ⟨nq, hw''⟩ := hw'
                  subst hw''
                  go_wp2_with fail
                  go_meet
                  exact ⟨rfl, _, rfl⟩
                · refine wp_region_quiet_lit (by kernel_rfl) (by kernel_rfl) ?_
                  repeat (go_big_quiet_step (fail))
                  refine wpQuiet_nil ?_
                  intro _ hw'
                  obtain ⟨nq, hw''⟩ := hw'
                  subst hw''
                  go_wp2_with fail
                  go_meet
                  exact ⟨rfl, _, rfl⟩
              case rest =>
                obtain ⟨rfl, nd, rfl⟩ := hcut
                rcases hin with ⟨hc1, hc2, HN⟩ | ⟨hc1, hc2, HN⟩ | ⟨hc1, HN⟩
                all_goals
                  go_wp2
                  go_roundw
                  case rel => exact ⟨jj + 1, _, by go_num, by omega, rfl, by rw [HN.out]; try go_num⟩
                  case measure => simp [intOf]; omega
            · have HE : Hid (cnt c (rs.take jj) = cnt c rs) := by show _ = _; rw [List.take_of_length_le (by omega)]
              have h1 := cnt_one c rs HS.out.1
              have hof := ofI_bd c
              have hlp : 0 < rs.length := List.length_pos_iff.2 hr0
              have hF := HF.out
              rw [decide_eq_true hlp, Bool.true_and] at hF
              rw [HE.out]
              obtain ⟨o, ho⟩ : ∃ o, ofI c = o := ⟨_, rfl⟩
              rw [ho] at hF hof
              have HO := Lib.hid ho
              obtain ⟨hof0, hof1⟩ := hof
              have hmm : (cnt c rs = 0 ∧ (o == (q : Int)) = false) ∨ (cnt c rs = 1 ∧ (o == (q : Int)) = true) := by
                rcases (show cnt c rs = 0 ∨ cnt c rs = 1 by omega) with h | h
                · exact .inl ⟨h, by rw [← hF, h]; rfl⟩
                · exact .inr ⟨h, by rw [← hF, h]; rfl⟩
              clear hF ho hcl hcl2 h1
              rcases hmm with ⟨hm, hoq⟩ | ⟨hm, hoq⟩
              all_goals
                rw [hm]
                clear hm
                go_wp2_with (first
                  | (go_at_call 13; refine (of_any c _ (by omega) (by omega)).mono ?_; rintro e w6 ⟨rfl, b6⟩; rw [HO.out])
                  | (go_at_call 14; refine (lives02 _).mono ?_; rintro e w7 ⟨rfl, b7⟩))
                go_ret
                exact ⟨rfl, ((below_drewN X5.out.1 nd).trans (b6.mono (below_drewN X5.out.1 nd).size)).trans (b7.mono ((below_drewN X5.out.1 nd).trans (b6.mono (below_drewN X5.out.1 nd).size)).size)⟩

end Go.Proofs.Ytjncnacacffhhaa
