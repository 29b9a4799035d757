/-
  Contracts: the reference's Word.
-/
import Derived.Test.YtaocnnebfnlgiaaDoorWord
namespace Go.Proofs.YtaocnnebfnlgiaaDoor
open Go.RowKit

/-- The pieces are the clusters. -/
theorem pieces_at (s : ByteArray) (j : Nat) (hj : j < clen s) : (pieces s).getD j ⟨#[]⟩ = cutS s (cstarts s) j (j + 1) := by
  unfold pieces piecesK cutS
  simp [hj]
theorem cut_size (s : ByteArray) (l : List Int) (i j : Nat) : (cutS s l i j).size ≤ s.size := by
  unfold cutS
  rw [ByteArray.size_extract]
  omega

set_option maxRecDepth 100000 in
set_option maxHeartbeats 4000000 in
theorem rwordR_any (s : ByteArray) (i : Int) (w : World) (hs : s.size ≤ 1000) (hi0 : -9223372036854775808 ≤ i) (hi1 : i ≤ 9223372036854775807) :
    Calls Tryd.prog 7 #[.string s, .int .i64 i, .bool true] w fun e w' => e = .returned (.int .i64 (wordR (blankAt s (cstarts s)) (clen s) (clampN i (clen s)) : Nat)) ∧ Below w.heap.size w w' := by
  have RS := Lib.hid (rsplit_any s w hs)
  have hcl := clampN_le i (clen s)
  have HC := Lib.hid (clampN_eq i (clen s))
  have hle := clen_le s
  have HF : Hid (∀ j, blankAt s (cstarts s) j = blankS (cutS s (cstarts s) j (j + 1))) := fun j => rfl
  have HPC := Lib.hid (fun j hj => pieces_at s j hj)
  have HPL := Lib.hid (pieces_len s)
  have HZ := Lib.hid (fun j => cut_size s (cstarts s) j (j + 1))
  have HW : Hid (∀ i, wordR (blankAt s (cstarts s)) (clen s) i = goR (blankAt s (cstarts s)) (clen s) false (goR (blankAt s (cstarts s)) (clen s) true (i))) := fun _ => rfl
  have HB1 := Lib.hid (goR_bd (blankAt s (cstarts s)) (clen s) true (clampN i (clen s)) hcl).2
  obtain ⟨l, hl⟩ : ∃ l, cstarts s = l := ⟨_, rfl⟩
  rw [hl] at HF HPC HZ HW HB1 ⊢
  obtain ⟨f, hf⟩ : ∃ f, blankAt s l = f := ⟨_, rfl⟩
  rw [hf] at HF HW HB1 ⊢
  obtain ⟨ps, hps⟩ : ∃ ps, pieces s = ps := ⟨_, rfl⟩
  rw [hps] at RS HPC HPL
  obtain ⟨n, hn⟩ : ∃ n, clen s = n := ⟨_, rfl⟩
  rw [hn] at RS hcl HC hle HPC HPL HB1 ⊢
  rw [hn] at HW
  obtain ⟨i0, hi0'⟩ : ∃ i0, clampN i n = i0 := ⟨_, rfl⟩
  rw [hi0'] at hcl HC HB1 ⊢
  obtain ⟨p1, hp1⟩ : ∃ p1, goR (f) (n) true (i0) = p1 := ⟨_, rfl⟩
  obtain ⟨p2, hp2⟩ : ∃ p2, goR (f) (n) false (p1) = p2 := ⟨_, rfl⟩
  have hw2 : wordR f n i0 = p2 := by rw [HW.out, hp1, hp2]
  rw [hw2]
  rw [hp1] at HB1
  have HP1 := Lib.hid hp1
  have HP2 := Lib.hid hp2
  have hb1 := HB1.out
  clear hl hf hps hn hi0' hp1 hp2 hw2
  go_enter Tryd.func7, Tryd.ntmps7
  go_wp2_with fail
  refine RS.out.mono ?_
  rintro e w1 ⟨v, rfl, o1, b1⟩
  have hst : IsStrs w1 v ps := IsStrs.of_own (by rw [HPL.out]; exact o1)
  have B1 := aside b1
  clear o1 b1
  obtain ⟨A, c, rfl, hc1, hc2, hcs⟩ := strs_cases hst
  clear hst
  rw [HPL.out] at hc1 ⊢
  rw [HPL.out] at hcs
  have hcs2 : (∃ b off, A = some ⟨b, off, none⟩ ∧ b < w1.heap.size ∧ Hid (∀ j, j < n → w1.cell? ⟨b, off + j, none⟩ = some (.string (ps.getD j ⟨#[]⟩)))) ∨ n ≤ 0 := by
    rcases hcs with ⟨b, off, rfl, hh⟩ | ⟨_, h0⟩
    · rcases Nat.eq_zero_or_pos n with h | h
      · exact .inr (by omega)
      · exact .inl ⟨b, off, rfl, World.block_lt_of_cell? w1 _ (hh.out 0 h), hh⟩
    · exact .inr h0
  clear hcs
  rcases hcs2 with ⟨b, off, rfl, hbl, CE⟩ | hn0
  all_goals
    go_wp2_with fail
    go_loopw [1] (fun a wr => ∃ j : Nat, a = .int .i64 (j : Int) ∧ j ≤ n ∧ Hid (goR f n true j = p1) ∧ Aside (Below w1.heap.size w1 wr)) (fun a _ => n + 1 - (intOf a).toNat)
    case atStart => exact ⟨i0, by have := HC.out; congr 1; omega, hcl, HP1.out, Below.refl _ _⟩
    case round =>
      obtain ⟨j, rfl, hj, HJ, HY⟩ := hrel
      by_cases hjn : j < n
      · first
          | (exfalso; omega)
          | (have hjn2 : (j : Int) < (n : Int) := by omega
             have hck := CE.out j hjn
             rw [HPC.out j hjn, ← HY.out.cell (p := ⟨b, off + j, none⟩) hbl] at hck
             have hmin : (min (j : Int) ((n : Int) - 1)).toNat = j := by omega
             have hck2 : wr.cell? ⟨b, off + (min (j : Int) ((n : Int) - 1)).toNat, none⟩ = some (.string (cutS s l j (j + 1))) := by rw [hmin]; exact hck
             have hfj := HF.out j
             have hz := HZ.out j
             obtain ⟨x, hx⟩ : ∃ x, cutS s l j (j + 1) = x := ⟨_, rfl⟩
             rw [hx] at hck2 hfj hz
             rw [hx] at hck
             have RB := Lib.hid (rblankS_any x wr (by omega))
             obtain ⟨bj, hbj⟩ : ∃ bj, blankS x = bj := ⟨_, rfl⟩
             rw [hbj] at RB hfj
             clear hmin hx hbj hz
             cases bj with
             | true =>
               have HJ2 := Lib.hid ((goR_yes f n true j hjn hfj).symm.trans HJ.out)
               clear hfj
               go_wp2_with fail
               refine RB.out.mono ?_
               rintro e w2 ⟨rfl, b2⟩
               have HY2 := aside (HY.out.trans (b2.mono HY.out.size))
               clear b2
               go_wp2
               go_roundw
               case rel => exact ⟨j + 1, by first | rfl | go_num | (congr 1; omega), by omega, HJ2.out, HY2⟩
               case measure => simp [intOf]; try omega
             | false =>
               have HJ2 := Lib.hid ((goR_no f n true j (by rw [hfj]; decide)).symm.trans HJ.out)
               clear hfj
               go_wp2_with fail
               refine RB.out.mono ?_
               rintro e w2 ⟨rfl, b2⟩
               have HY2 := aside (HY.out.trans (b2.mono HY.out.size))
               clear b2
               go_wp2_with fail
               have HYS := HY2
               clear HY HY2
               have hpp := HJ2.out
               clear HJ HJ2
               obtain rfl : j = p1 := hpp
               go_loopw [1] (fun a wr => ∃ j : Nat, a = .int .i64 (j : Int) ∧ j ≤ n ∧ Hid (goR f n false j = p2) ∧ Aside (Below w1.heap.size w1 wr)) (fun a _ => n + 1 - (intOf a).toNat)
               case atStart => exact ⟨j, rfl, by omega, HP2.out, HYS.out⟩
               case round =>
                 obtain ⟨j, rfl, hj, HJ, HY⟩ := hrel
                 by_cases hjn : j < n
                 · first
                     | (exfalso; omega)
                     | (have hjn2 : (j : Int) < (n : Int) := by omega
                        have hck := CE.out j hjn
                        rw [HPC.out j hjn, ← HY.out.cell (p := ⟨b, off + j, none⟩) hbl] at hck
                        have hmin : (min (j : Int) ((n : Int) - 1)).toNat = j := by omega
                        have hck2 : wr.cell? ⟨b, off + (min (j : Int) ((n : Int) - 1)).toNat, none⟩ = some (.string (cutS s l j (j + 1))) := by rw [hmin]; exact hck
                        have hfj := HF.out j
                        have hz := HZ.out j
                        obtain ⟨x, hx⟩ : ∃ x, cutS s l j (j + 1) = x := ⟨_, rfl⟩
                        rw [hx] at hck2 hfj hz
                        rw [hx] at hck
                        have RB := Lib.hid (rblankS_any x wr (by omega))
                        obtain ⟨bj, hbj⟩ : ∃ bj, blankS x = bj := ⟨_, rfl⟩
                        rw [hbj] at RB hfj
                        clear hmin hx hbj hz
                        cases bj with
                        | false =>
                          have HJ2 := Lib.hid ((goR_yes f n false j hjn hfj).symm.trans HJ.out)
                          clear hfj
                          go_wp2_with fail
                          refine RB.out.mono ?_
                          rintro e w2 ⟨rfl, b2⟩
                          have HY2 := aside (HY.out.trans (b2.mono HY.out.size))
                          clear b2
                          go_wp2
                          go_roundw
                          case rel => exact ⟨j + 1, by first | rfl | go_num | (congr 1; omega), by omega, HJ2.out, HY2⟩
                          case measure => simp [intOf]; try omega
                        | true =>
                          have HJ2 := Lib.hid ((goR_no f n false j (by rw [hfj]; decide)).symm.trans HJ.out)
                          clear hfj
                          go_wp2_with fail
                          refine RB.out.mono ?_
                          rintro e w2 ⟨rfl, b2⟩
                          have HY2 := aside (HY.out.trans (b2.mono HY.out.size))
                          clear b2
                          go_wp2_with fail
                          go_ret
                          exact ⟨ret_int (by have h := HJ2.out; omega), B1.out.trans (HY2.out.mono B1.out.size)⟩)
                 · have hjn2 : decide ((j : Int) < (n : Int)) = false := decide_eq_false (by omega)
                   have HJ2 := Lib.hid ((goR_end f n false j hjn).symm.trans HJ.out)
                   have HY2 := HY
                   go_wp2_with fail
                   go_ret
                   exact ⟨ret_int (by have h := HJ2.out; omega), B1.out.trans (HY2.out.mono B1.out.size)⟩)
      · have hjn2 : decide ((j : Int) < (n : Int)) = false := decide_eq_false (by omega)
        have HJ2 := Lib.hid ((goR_end f n true j hjn).symm.trans HJ.out)
        have HY2 := HY
        go_wp2_with fail
        have HYS := HY2
        clear HY HY2
        have hpp := HJ2.out
        clear HJ HJ2
        obtain rfl : j = p1 := hpp
        go_loopw [1] (fun a wr => ∃ j : Nat, a = .int .i64 (j : Int) ∧ j ≤ n ∧ Hid (goR f n false j = p2) ∧ Aside (Below w1.heap.size w1 wr)) (fun a _ => n + 1 - (intOf a).toNat)
        case atStart => exact ⟨j, rfl, by omega, HP2.out, HYS.out⟩
        case round =>
          obtain ⟨j, rfl, hj, HJ, HY⟩ := hrel
          by_cases hjn : j < n
          · first
              | (exfalso; omega)
              | (have hjn2 : (j : Int) < (n : Int) := by omega
                 have hck := CE.out j hjn
                 rw [HPC.out j hjn, ← HY.out.cell (p := ⟨b, off + j, none⟩) hbl] at hck
                 have hmin : (min (j : Int) ((n : Int) - 1)).toNat = j := by omega
                 have hck2 : wr.cell? ⟨b, off + (min (j : Int) ((n : Int) - 1)).toNat, none⟩ = some (.string (cutS s l j (j + 1))) := by rw [hmin]; exact hck
                 have hfj := HF.out j
                 have hz := HZ.out j
                 obtain ⟨x, hx⟩ : ∃ x, cutS s l j (j + 1) = x := ⟨_, rfl⟩
                 rw [hx] at hck2 hfj hz
                 rw [hx] at hck
                 have RB := Lib.hid (rblankS_any x wr (by omega))
                 obtain ⟨bj, hbj⟩ : ∃ bj, blankS x = bj := ⟨_, rfl⟩
                 rw [hbj] at RB hfj
                 clear hmin hx hbj hz
                 cases bj with
                 | false =>
                   have HJ2 := Lib.hid ((goR_yes f n false j hjn hfj).symm.trans HJ.out)
                   clear hfj
                   go_wp2_with fail
                   refine RB.out.mono ?_
                   rintro e w2 ⟨rfl, b2⟩
                   have HY2 := aside (HY.out.trans (b2.mono HY.out.size))
                   clear b2
                   go_wp2
                   go_roundw
                   case rel => exact ⟨j + 1, by first | rfl | go_num | (congr 1; omega), by omega, HJ2.out, HY2⟩
                   case measure => simp [intOf]; try omega
                 | true =>
                   have HJ2 := Lib.hid ((goR_no f n false j (by rw [hfj]; decide)).symm.trans HJ.out)
                   clear hfj
                   go_wp2_with fail
                   refine RB.out.mono ?_
                   rintro e w2 ⟨rfl, b2⟩
                   have HY2 := aside (HY.out.trans (b2.mono HY.out.size))
                   clear b2
                   go_wp2_with fail
                   go_ret
                   exact ⟨ret_int (by have h := HJ2.out; omega), B1.out.trans (HY2.out.mono B1.out.size)⟩)
          · have hjn2 : decide ((j : Int) < (n : Int)) = false := decide_eq_false (by omega)
            have HJ2 := Lib.hid ((goR_end f n false j hjn).symm.trans HJ.out)
            have HY2 := HY
            go_wp2_with fail
            go_ret
            exact ⟨ret_int (by have h := HJ2.out; omega), B1.out.trans (HY2.out.mono B1.out.size)⟩

set_option maxRecDepth 100000 in
set_option maxHeartbeats 4000000 in
theorem rwordL_any (s : ByteArray) (i : Int) (w : World) (hs : s.size ≤ 1000) (hi0 : -9223372036854775808 ≤ i) (hi1 : i ≤ 9223372036854775807) :
    Calls Tryd.prog 7 #[.string s, .int .i64 i, .bool false] w fun e w' => e = .returned (.int .i64 (wordL (blankAt s (cstarts s)) (clampN i (clen s)) : Nat)) ∧ Below w.heap.size w w' := by
  have RS := Lib.hid (rsplit_any s w hs)
  have hcl := clampN_le i (clen s)
  have HC := Lib.hid (clampN_eq i (clen s))
  have hle := clen_le s
  have HF : Hid (∀ j, blankAt s (cstarts s) j = blankS (cutS s (cstarts s) j (j + 1))) := fun j => rfl
  have HPC := Lib.hid (fun j hj => pieces_at s j hj)
  have HPL := Lib.hid (pieces_len s)
  have HZ := Lib.hid (fun j => cut_size s (cstarts s) j (j + 1))
  have HW : Hid (∀ i, wordL (blankAt s (cstarts s)) i = goL (blankAt s (cstarts s)) false (goL (blankAt s (cstarts s)) true (i))) := fun _ => rfl
  have HB1 := Lib.hid (Nat.le_trans (goL_le (blankAt s (cstarts s)) true (clampN i (clen s))) hcl)
  obtain ⟨l, hl⟩ : ∃ l, cstarts s = l := ⟨_, rfl⟩
  rw [hl] at HF HPC HZ HW HB1 ⊢
  obtain ⟨f, hf⟩ : ∃ f, blankAt s l = f := ⟨_, rfl⟩
  rw [hf] at HF HW HB1 ⊢
  obtain ⟨ps, hps⟩ : ∃ ps, pieces s = ps := ⟨_, rfl⟩
  rw [hps] at RS HPC HPL
  obtain ⟨n, hn⟩ : ∃ n, clen s = n := ⟨_, rfl⟩
  rw [hn] at RS hcl HC hle HPC HPL HB1 ⊢
  skip
  obtain ⟨i0, hi0'⟩ : ∃ i0, clampN i n = i0 := ⟨_, rfl⟩
  rw [hi0'] at hcl HC HB1 ⊢
  obtain ⟨p1, hp1⟩ : ∃ p1, goL (f) true (i0) = p1 := ⟨_, rfl⟩
  obtain ⟨p2, hp2⟩ : ∃ p2, goL (f) false (p1) = p2 := ⟨_, rfl⟩
  have hw2 : wordL f i0 = p2 := by rw [HW.out, hp1, hp2]
  rw [hw2]
  rw [hp1] at HB1
  have HP1 := Lib.hid hp1
  have HP2 := Lib.hid hp2
  have hb1 := HB1.out
  clear hl hf hps hn hi0' hp1 hp2 hw2
  go_enter Tryd.func7, Tryd.ntmps7
  go_wp2_with fail
  refine RS.out.mono ?_
  rintro e w1 ⟨v, rfl, o1, b1⟩
  have hst : IsStrs w1 v ps := IsStrs.of_own (by rw [HPL.out]; exact o1)
  have B1 := aside b1
  clear o1 b1
  obtain ⟨A, c, rfl, hc1, hc2, hcs⟩ := strs_cases hst
  clear hst
  rw [HPL.out] at hc1 ⊢
  rw [HPL.out] at hcs
  have hcs2 : (∃ b off, A = some ⟨b, off, none⟩ ∧ b < w1.heap.size ∧ Hid (∀ j, j < n → w1.cell? ⟨b, off + j, none⟩ = some (.string (ps.getD j ⟨#[]⟩)))) ∨ n ≤ 0 := by
    rcases hcs with ⟨b, off, rfl, hh⟩ | ⟨_, h0⟩
    · rcases Nat.eq_zero_or_pos n with h | h
      · exact .inr (by omega)
      · exact .inl ⟨b, off, rfl, World.block_lt_of_cell? w1 _ (hh.out 0 h), hh⟩
    · exact .inr h0
  clear hcs
  rcases hcs2 with ⟨b, off, rfl, hbl, CE⟩ | hn0
  all_goals
    go_wp2_with fail
    go_loopw [1] (fun a wr => ∃ j : Nat, a = .int .i64 (j : Int) ∧ j ≤ n ∧ Hid (goL f true j = p1) ∧ Aside (Below w1.heap.size w1 wr)) (fun a _ => (intOf a).toNat)
    case atStart => exact ⟨i0, by have := HC.out; congr 1; omega, hcl, HP1.out, Below.refl _ _⟩
    case round =>
      obtain ⟨j0, rfl, hj, HJ, HY⟩ := hrel
      by_cases hj0 : 0 < j0
      · first
          | (exfalso; omega)
          | (obtain ⟨j, rfl⟩ : ∃ j, j0 = j + 1 := ⟨j0 - 1, by omega⟩
             have hjn : j < n := by omega
             have hjc : ((j + 1 : Nat) : Int) = (j : Int) + 1 := by omega
             rw [hjc]
             have hck := CE.out j hjn
             rw [HPC.out j hjn, ← HY.out.cell (p := ⟨b, off + j, none⟩) hbl] at hck
             have hmax : (max (j : Int) 0).toNat = j := by omega
             have hck2 : wr.cell? ⟨b, off + (max (j : Int) 0).toNat, none⟩ = some (.string (cutS s l j (j + 1))) := by rw [hmax]; exact hck
             have hmin := hmax
             clear hmax hjc
             have hfj := HF.out j
             have hz := HZ.out j
             obtain ⟨x, hx⟩ : ∃ x, cutS s l j (j + 1) = x := ⟨_, rfl⟩
             rw [hx] at hck2 hfj hz
             rw [hx] at hck
             have RB := Lib.hid (rblankS_any x wr (by omega))
             obtain ⟨bj, hbj⟩ : ∃ bj, blankS x = bj := ⟨_, rfl⟩
             rw [hbj] at RB hfj
             clear hmin hx hbj hz
             cases bj with
             | true =>
               have HJ2 := Lib.hid ((goL_yes f true j hfj).symm.trans HJ.out)
               clear hfj
               go_wp2_with fail
               refine RB.out.mono ?_
               rintro e w2 ⟨rfl, b2⟩
               have HY2 := aside (HY.out.trans (b2.mono HY.out.size))
               clear b2
               go_wp2
               go_roundw
               case rel => exact ⟨j, by first | rfl | go_num | (congr 1; omega), by omega, HJ2.out, HY2⟩
               case measure => simp [intOf]; try omega
             | false =>
               have HJ2 := Lib.hid ((goL_no f true j (by rw [hfj]; decide)).symm.trans HJ.out)
               clear hfj
               go_wp2_with fail
               refine RB.out.mono ?_
               rintro e w2 ⟨rfl, b2⟩
               have HY2 := aside (HY.out.trans (b2.mono HY.out.size))
               clear b2
               go_wp2_with fail
               have HYS := HY2
               clear HY HY2
               have hpp := HJ2.out
               clear HJ HJ2
               have hpi : ((j : Int) + 1) = ((p1 : Nat) : Int) := by omega
               rw [hpi]
               go_loopw [1] (fun a wr => ∃ j : Nat, a = .int .i64 (j : Int) ∧ j ≤ n ∧ Hid (goL f false j = p2) ∧ Aside (Below w1.heap.size w1 wr)) (fun a _ => (intOf a).toNat)
               case atStart => exact ⟨p1, rfl, hb1, HP2.out, HYS.out⟩
               case round =>
                 obtain ⟨j0, rfl, hj, HJ, HY⟩ := hrel
                 by_cases hj0 : 0 < j0
                 · first
                     | (exfalso; omega)
                     | (obtain ⟨j, rfl⟩ : ∃ j, j0 = j + 1 := ⟨j0 - 1, by omega⟩
                        have hjn : j < n := by omega
                        have hjc : ((j + 1 : Nat) : Int) = (j : Int) + 1 := by omega
                        rw [hjc]
                        have hck := CE.out j hjn
                        rw [HPC.out j hjn, ← HY.out.cell (p := ⟨b, off + j, none⟩) hbl] at hck
                        have hmax : (max (j : Int) 0).toNat = j := by omega
                        have hck2 : wr.cell? ⟨b, off + (max (j : Int) 0).toNat, none⟩ = some (.string (cutS s l j (j + 1))) := by rw [hmax]; exact hck
                        have hmin := hmax
                        clear hmax hjc
                        have hfj := HF.out j
                        have hz := HZ.out j
                        obtain ⟨x, hx⟩ : ∃ x, cutS s l j (j + 1) = x := ⟨_, rfl⟩
                        rw [hx] at hck2 hfj hz
                        rw [hx] at hck
                        have RB := Lib.hid (rblankS_any x wr (by omega))
                        obtain ⟨bj, hbj⟩ : ∃ bj, blankS x = bj := ⟨_, rfl⟩
                        rw [hbj] at RB hfj
                        clear hmin hx hbj hz
                        cases bj with
                        | false =>
                          have HJ2 := Lib.hid ((goL_yes f false j hfj).symm.trans HJ.out)
                          clear hfj
                          go_wp2_with fail
                          refine RB.out.mono ?_
                          rintro e w2 ⟨rfl, b2⟩
                          have HY2 := aside (HY.out.trans (b2.mono HY.out.size))
                          clear b2
                          go_wp2
                          go_roundw
                          case rel => exact ⟨j, by first | rfl | go_num | (congr 1; omega), by omega, HJ2.out, HY2⟩
                          case measure => simp [intOf]; try omega
                        | true =>
                          have HJ2 := Lib.hid ((goL_no f false j (by rw [hfj]; decide)).symm.trans HJ.out)
                          clear hfj
                          go_wp2_with fail
                          refine RB.out.mono ?_
                          rintro e w2 ⟨rfl, b2⟩
                          have HY2 := aside (HY.out.trans (b2.mono HY.out.size))
                          clear b2
                          go_wp2_with fail
                          go_ret
                          exact ⟨ret_int (by have h := HJ2.out; omega), B1.out.trans (HY2.out.mono B1.out.size)⟩)
                 · obtain rfl : j0 = 0 := by omega
                   have HJ2 : Hid (0 = p2) := HJ.out
                   have HY2 := HY
                   have hz : ((0 : Nat) : Int) = 0 := by omega
                   rw [hz]
                   clear hz
                   go_wp2_with fail
                   go_ret
                   exact ⟨ret_int (by have h := HJ2.out; omega), B1.out.trans (HY2.out.mono B1.out.size)⟩)
      · obtain rfl : j0 = 0 := by omega
        have HJ2 : Hid (0 = p1) := HJ.out
        have HY2 := HY
        have hz : ((0 : Nat) : Int) = 0 := by omega
        rw [hz]
        clear hz
        go_wp2_with fail
        have HYS := HY2
        clear HY HY2
        have hpp := HJ2.out
        clear HJ HJ2
        subst hpp
        go_loopw [1] (fun a wr => ∃ j : Nat, a = .int .i64 (j : Int) ∧ j ≤ n ∧ Hid (goL f false j = p2) ∧ Aside (Below w1.heap.size w1 wr)) (fun a _ => (intOf a).toNat)
        case atStart => exact ⟨0, rfl, Nat.zero_le _, HP2.out, HYS.out⟩
        case round =>
          obtain ⟨j0, rfl, hj, HJ, HY⟩ := hrel
          by_cases hj0 : 0 < j0
          · first
              | (exfalso; omega)
              | (obtain ⟨j, rfl⟩ : ∃ j, j0 = j + 1 := ⟨j0 - 1, by omega⟩
                 have hjn : j < n := by omega
                 have hjc : ((j + 1 : Nat) : Int) = (j : Int) + 1 := by omega
                 rw [hjc]
                 have hck := CE.out j hjn
                 rw [HPC.out j hjn, ← HY.out.cell (p := ⟨b, off + j, none⟩) hbl] at hck
                 have hmax : (max (j : Int) 0).toNat = j := by omega
                 have hck2 : wr.cell? ⟨b, off + (max (j : Int) 0).toNat, none⟩ = some (.string (cutS s l j (j + 1))) := by rw [hmax]; exact hck
                 have hmin := hmax
                 clear hmax hjc
                 have hfj := HF.out j
                 have hz := HZ.out j
                 obtain ⟨x, hx⟩ : ∃ x, cutS s l j (j + 1) = x := ⟨_, rfl⟩
                 rw [hx] at hck2 hfj hz
                 rw [hx] at hck
                 have RB := Lib.hid (rblankS_any x wr (by omega))
                 obtain ⟨bj, hbj⟩ : ∃ bj, blankS x = bj := ⟨_, rfl⟩
                 rw [hbj] at RB hfj
                 clear hmin hx hbj hz
                 cases bj with
                 | false =>
                   have HJ2 := Lib.hid ((goL_yes f false j hfj).symm.trans HJ.out)
                   clear hfj
                   go_wp2_with fail
                   refine RB.out.mono ?_
                   rintro e w2 ⟨rfl, b2⟩
                   have HY2 := aside (HY.out.trans (b2.mono HY.out.size))
                   clear b2
                   go_wp2
                   go_roundw
                   case rel => exact ⟨j, by first | rfl | go_num | (congr 1; omega), by omega, HJ2.out, HY2⟩
                   case measure => simp [intOf]; try omega
                 | true =>
                   have HJ2 := Lib.hid ((goL_no f false j (by rw [hfj]; decide)).symm.trans HJ.out)
                   clear hfj
                   go_wp2_with fail
                   refine RB.out.mono ?_
                   rintro e w2 ⟨rfl, b2⟩
                   have HY2 := aside (HY.out.trans (b2.mono HY.out.size))
                   clear b2
                   go_wp2_with fail
                   go_ret
                   exact ⟨ret_int (by have h := HJ2.out; omega), B1.out.trans (HY2.out.mono B1.out.size)⟩)
          · obtain rfl : j0 = 0 := by omega
            have HJ2 : Hid (0 = p2) := HJ.out
            have HY2 := HY
            have hz : ((0 : Nat) : Int) = 0 := by omega
            rw [hz]
            clear hz
            go_wp2_with fail
            go_ret
            exact ⟨ret_int (by have h := HJ2.out; omega), B1.out.trans (HY2.out.mono B1.out.size)⟩

end Go.Proofs.YtaocnnebfnlgiaaDoor
