/-
  Contracts: the reference's Starts and Split.
-/
import Derived.Test.YtaocnnebfnlgiaaDoorSplit
import Derived.Test.YtaocnnebfnlgiaaDoorJoinR
import Derived.Test.YtaocnnebfnlgiaaDoorJoinB
import Derived.Test.YtaocnnebfnlgiaaDoorRef3
namespace Go.Proofs.YtaocnnebfnlgiaaDoor
open Go.RowKit

theorem startsC_take (cs ps : List Int) (k : Nat) (hlt : k < cs.length) (hpl : k < ps.length) : startsC rs0 (cs.take (k + 1)) (ps.take (k + 1)) = startsC rs0 (cs.take k) (ps.take k) ++ (if joinedB (cs.take k) (cs.getD k 0) = true then [] else [ps.getD k 0]) := by
  rw [List.take_succ_eq_append_getElem hlt, List.take_succ_eq_append_getElem hpl, startsC_snoc _ _ _ _ _ (by simp; omega), fold_run]
  unfold joinedB
  simp [hlt, hpl]

set_option maxRecDepth 100000 in
set_option maxHeartbeats 4000000 in
theorem rcstarts_any (s : ByteArray) (w : World) (hs : s.size ≤ 1000) :
    Calls Tryd.prog 11 #[.string s] w fun e w' => ∃ v, e = .returned v ∧ w'.ownsRow w.heap.size 3 1 v (cstarts s).length (ints (cstarts s)) ∧ Below w.heap.size w w' := by
  obtain ⟨i0, hi, hz0, hz1, hz2⟩ := info_parts info_int5
  have CA := Lib.hid (fun W : World => rall_any s W (by omega))
  have hcl := chars_len_le s
  have hcs := chars_len s
  have hst : ∀ j, j < (chars s).length → (starts s).getD j 0 = (starts0 s).getD j 0 := by
    intro j hj
    unfold starts
    rw [List.getD_eq_getElem?_getD, List.getD_eq_getElem?_getD, List.getElem?_append_left (by omega)]
  have hlen2 : (starts s).length = (chars s).length + 1 := by unfold starts; rw [List.length_append, ← hcs]; rfl
  have hfin : startsC rs0 (chars s) (starts0 s) ++ [(s.size : Int)] = cstarts s := rfl
  obtain ⟨cs, hC⟩ : ∃ cs, chars s = cs := ⟨_, rfl⟩
  obtain ⟨ps, hP⟩ : ∃ ps, starts0 s = ps := ⟨_, rfl⟩
  obtain ⟨qs, hQ⟩ : ∃ qs, starts s = qs := ⟨_, rfl⟩
  obtain ⟨vb, hV⟩ : ∃ vb, validB s = vb := ⟨_, rfl⟩
  rw [hC] at CA hcl hcs hst hlen2 hfin
  rw [hP] at hcs hst hfin
  rw [hQ] at CA hst hlen2
  rw [hV] at CA
  have HST := Lib.hid hst
  have HCS := Lib.hid hcs
  have HL2 := Lib.hid hlen2
  have HFIN := Lib.hid hfin
  clear hC hP hQ hV hst hcs hlen2 hfin
  go_enter Tryd.func11, Tryd.ntmps11
  go_wp2_with fail
  refine (CA.out w).mono ?_
  rintro e w3 ⟨v3, v2, rfl, o3, o2, _, b3⟩
  have O2 := Lib.hid o2
  have O3 := Lib.hid o3
  have B3 := aside b3
  have hs3 := b3.size
  clear o2 o3 b3
  have hform3 : ∃ A c, v3 = .slice A cs.length c ∧ cs.length ≤ c ∧ c ≤ 9223372036854775807 ∧ ((∃ g, A = some ⟨g, 0, none⟩ ∧ g < w3.heap.size) ∨ cs.length ≤ 0) := by
    have h := O3.out
    rcases h.2 with ⟨h1, h0⟩ | ⟨g, cap, cur, h1, hg, hh, hc, hm, _⟩
    · exact ⟨none, 0, by rw [h1, h0], by omega, by omega, .inr (by omega)⟩
    · exact ⟨_, cap, h1, hc, hm, .inl ⟨g, rfl, (Array.getElem?_eq_some_iff.1 hh).1⟩⟩
  have hform2 : ∃ g c, v2 = .slice (some ⟨g, 0, none⟩) (cs.length + 1) c ∧ cs.length + 1 ≤ c ∧ c ≤ 9223372036854775807 ∧ g < w3.heap.size := by
    have h := O2.out
    rcases h.2 with ⟨h1, h0⟩ | ⟨g, cap, cur, h1, hg, hh, hc, hm, _⟩
    · rw [HL2.out] at h0; omega
    · rw [HL2.out] at h1 hc
      exact ⟨g, cap, h1, hc, hm, (Array.getElem?_eq_some_iff.1 hh).1⟩
  obtain ⟨A3, c3, rfl, hc31, hc32, hA3⟩ := hform3
  obtain ⟨g2, c2, rfl, hc21, hc22, hg22⟩ := hform2
  have I3 := Lib.hid (IsInts.of_own O3.out)
  have D2 : Hid (∀ j, j < cs.length → w3.cell? ⟨g2, j, none⟩ = some (.int .i64 (ps.getD j 0))) := by
    intro j hj
    have h := O2.out
    rw [HL2.out] at h
    rw [h.cellAt j (by omega), ints_get qs j (by rw [HL2.out]; omega), HST.out j hj]
  rcases hA3 with ⟨g3, rfl, hg32⟩ | hn
  all_goals
    go_wp2_with fail
    go_loopw [6, 7] (fun vo i wr => ∃ k : Nat, i = .int .i64 k ∧ k ≤ cs.length ∧ Aside (wr.ownsRow w3.heap.size 3 1 vo (startsC rs0 (cs.take k) (ps.take k)).length (ints (startsC rs0 (cs.take k) (ps.take k))) ∧ Below w3.heap.size w3 wr)) (fun _ i _ => cs.length - (intOf i).toNat)
    case atStart => exact ⟨0, rfl, by omega, World.ownsRow_nil _ _ _ _, Below.refl _ _⟩
    case round =>
      obtain ⟨k, rfl, hk, HX⟩ := hrel
      by_cases hlt : k < cs.length
      · first
          | (exfalso; omega)
          | (have e3 := O3.out.cellAt k (by omega)
             rw [ints_get cs k hlt] at e3
             rw [← HX.out.2.cell (p := ⟨g3, k, none⟩) hg32] at e3
             have e2 := D2.out k hlt
             rw [← HX.out.2.cell (p := ⟨g2, k, none⟩) hg22] at e2
             have hsn := startsC_take cs ps k hlt (by have := HCS.out; omega)
             have hsl := startsC_le (cs.take k) (ps.take k) rs0
             have htl : (cs.take k).length ≤ k := List.length_take_le _ _
             obtain ⟨c, hc⟩ : ∃ c, cs.getD k 0 = c := ⟨_, rfl⟩
             obtain ⟨p, hp⟩ : ∃ p, ps.getD k 0 = p := ⟨_, rfl⟩
             rw [hc] at e3 hsn
             rw [hp] at e2 hsn
             obtain ⟨st, hst⟩ : ∃ st, startsC rs0 (cs.take k) (ps.take k) = st := ⟨_, rfl⟩
             have HO := HX.out.1
             rw [hst] at hsn hsl HO
             have HOO := Lib.hid HO
             have HB := aside HX.out.2
             have hsz := HX.out.2.size
             have HSN := Lib.hid hsn
             have IK := Lib.hid ((I3.out.take_ k hk).below HX.out.2 (Nat.le_refl _))
             have CJ := fun (d : Nat) (os : Array Obj) => rjoined_B (cs.take k) _ c _ (IK.out.below (below_regrown wr d os) (Nat.le_refl _)) (by omega)
             have HC := fun (d : Nat) (os : Array Obj) => cell_regrown e3 d os
             obtain ⟨isb, hisb⟩ : ∃ isb, joinedB (cs.take k) c = isb := ⟨_, rfl⟩
             rw [hisb] at CJ HSN
             have E2 := Lib.hid e2
             clear hc hp hst hsn e2 hisb HO
             cases isb
             all_goals
               go_wp2_with fail
               refine wp_region_quiet_below (by kernel_rfl) (by kernel_rfl) ?_
               repeat (go_big_quiet_step ((go_at_call 22; exact Calls.regrown_of (CJ _ _))))
               refine wpQuiet_nil ?_
               intro _ hw'
               obtain ⟨⟨dq, osq⟩, hw''⟩ := hw'
               subst hw''
               have HB4 := aside (HB.out.trans ((below_regrown wr dq osq).mono hsz))
               have HO4 := Lib.hid (own_below HOO.out (below_regrown wr dq osq) (Nat.le_refl _))
               have e24 := cell_regrown E2.out dq osq
               generalize Go.Sort.grow (redrawn wr dq) osq = w4 at HB4 HO4 e24 ⊢
               have hb4s := HB4.out.size
             · go_wp2_with (first
                 | (at_builtin
                    refine wpList_append_own _ rfl (.tmp 31) (.tmp 36) 23 rfl w3.heap.size 3 i0 (.int .i64 0) 1 8 Tryd.underlying23 hi hz0 hz1 hz2 rfl (by decide) _ _ _ rfl (HO4.out.alloc _) ⟨w4.heap.size, 0, none⟩ 1 1 [.int .i64 p] rfl rfl (cell_one_new _ _ _) (fun x hx => by simp at hx; subst hx; rfl) (by unfold maxLen; omega) (by omega) (by simp; omega) ?_
                    intro v' w5 hown' hgrow hnil
                    have X5 : Aside (w5.ownsRow w3.heap.size 3 1 v' (startsC rs0 (cs.take (k + 1)) (ps.take (k + 1))).length (ints (startsC rs0 (cs.take (k + 1)) (ps.take (k + 1)))) ∧ Below w3.heap.size w3 w5) := by
                      refine ⟨?_, Below.grown (HB4.out.alloc (by omega) _) hgrow (by simp; omega) (fun j hj => by have := (HO4.out.lt _ hj).1; omega)⟩
                      rw [HSN.out, if_neg (by simp), List.length_append, ints_append]
                      exact hown'
                    clear hown' hgrow hnil))
               go_roundw
               case rel => exact ⟨k + 1, by go_num, by omega, X5⟩
               case measure => simp [intOf]; omega
             · have X4 : Aside (w4.ownsRow w3.heap.size 3 1 u6 (startsC rs0 (cs.take (k + 1)) (ps.take (k + 1))).length (ints (startsC rs0 (cs.take (k + 1)) (ps.take (k + 1)))) ∧ Below w3.heap.size w3 w4) := by
                 rw [HSN.out, if_pos trivial, List.append_nil]
                 exact ⟨HO4.out, HB4.out⟩
               go_wp2
               go_roundw
               case rel => exact ⟨k + 1, by go_num, by omega, X4⟩
               case measure => simp [intOf]; omega)
      · have HE : Hid (startsC rs0 (cs.take k) (ps.take k) = startsC rs0 cs ps) := by
          show _ = _
          rw [List.take_of_length_le (by omega), List.take_of_length_le (by have := HCS.out; omega)]
        have hsl := startsC_le cs ps rs0
        have HO := HX.out.1
        rw [HE.out] at HO
        have HOO := Lib.hid HO
        have hszr := HX.out.2.size
        have HF := HFIN.out
        obtain ⟨st, hst⟩ : ∃ st, startsC rs0 cs ps = st := ⟨_, rfl⟩
        rw [hst] at hsl HOO HF
        have HFF := Lib.hid HF
        clear hst HO HF
        go_wp2_with (first
          | (at_builtin
             refine wpList_append_own _ rfl _ _ 23 rfl w3.heap.size 3 i0 (.int .i64 0) 1 8 Tryd.underlying23 hi hz0 hz1 hz2 rfl (by decide) _ _ _ rfl (HOO.out.alloc _) ⟨wr.heap.size, 0, none⟩ 1 1 [.int .i64 (s.size : Int)] rfl rfl (cell_one_new _ _ _) (fun x hx => by simp at hx; subst hx; rfl) (by unfold maxLen; omega) (by omega) (by simp; omega) ?_
             intro v' w5 hown' hgrow hnil
             have X5 : Aside (w5.ownsRow w.heap.size 3 1 v' (cstarts s).length (ints (cstarts s)) ∧ Below w.heap.size w w5) := by
               refine ⟨?_, B3.out.trans ((Below.grown (HX.out.2.alloc hszr _) hgrow (by simp; omega) (fun j hj => by have := (HOO.out.lt _ hj).1; omega)).mono hs3)⟩
               rw [← HFF.out, List.length_append, ints_append]
               exact own_base hown' hs3
             clear hown' hgrow hnil))
        go_ret
        exact ⟨_, rfl, X5.out.1, X5.out.2⟩

set_option maxRecDepth 100000 in
set_option maxHeartbeats 4000000 in
theorem rsplit_any (s : ByteArray) (w : World) (hs : s.size ≤ 1000) :
    Calls Tryd.prog 15 #[.string s] w fun e w' => ∃ v, e = .returned v ∧ w'.ownsRow w.heap.size 9 1 v (clen s) (strs (pieces s)) ∧ Below w.heap.size w w' := by
  obtain ⟨i0, hi, hz0, hz1, hz2⟩ := info_parts info_str5
  have CS := Lib.hid (fun W : World => rcstarts_any s W hs)
  have hlen := cstarts_len s
  have hcl := clen_le s
  have htwo := cstarts_two s
  have hfin : piecesK s (cstarts s) (clen s) = pieces s := rfl
  obtain ⟨n, hn⟩ : ∃ n, clen s = n := ⟨_, rfl⟩
  obtain ⟨l, hl⟩ : ∃ l, cstarts s = l := ⟨_, rfl⟩
  rw [hn] at hlen hcl htwo hfin ⊢
  rw [hl] at hlen htwo hfin CS
  have HLEN := Lib.hid hlen
  have HFIN := Lib.hid hfin
  have HT := Lib.hid htwo
  clear hn hl hlen htwo hfin
  go_enter Tryd.func15, Tryd.ntmps15
  go_wp2_with fail
  refine (CS.out w).mono ?_
  rintro e w1 ⟨v, rfl, o1, b1⟩
  have O1 := Lib.hid o1
  have B1 := aside b1
  have hs1 := b1.size
  clear o1 b1
  have hform : ∃ g c, v = .slice (some ⟨g, 0, none⟩) (n + 1) c ∧ n + 1 ≤ c ∧ c ≤ 9223372036854775807 ∧ w.heap.size ≤ g ∧ g < w1.heap.size := by
    have h := O1.out
    rcases h.2 with ⟨h1, h0⟩ | ⟨g, cap, cur, h1, hg, hh, hc, hm, _⟩
    · rw [HLEN.out] at h0; omega
    · rw [HLEN.out] at h1 hc
      exact ⟨g, cap, h1, hc, hm, hg, (Array.getElem?_eq_some_iff.1 hh).1⟩
  obtain ⟨g, c, rfl, hc1, hc2, hg1, hg2⟩ := hform
  have D1 : Hid (∀ j, j < n + 1 → w1.cell? ⟨g, j, none⟩ = some (.int .i64 (l.getD j 0))) := by
    intro j hj
    have h := O1.out
    rw [HLEN.out] at h
    rw [h.cellAt j (by omega), ints_get l j (by rw [HLEN.out]; omega)]
  go_wp2_with fail
  go_loopw [4, 5] (fun vo i wr => ∃ k : Nat, i = .int .i64 ((k : Int) + 1) ∧ k ≤ n ∧ Aside (wr.ownsRow w1.heap.size 9 1 vo k (strs (piecesK s l k)) ∧ Below w1.heap.size w1 wr)) (fun _ i _ => n + 1 - (intOf i).toNat)
  case atStart => exact ⟨0, rfl, by omega, World.ownsRow_nil _ _ _ _, Below.refl _ _⟩
  case round =>
    obtain ⟨k, rfl, hk, HX⟩ := hrel
    by_cases hlt : k < n
    · have d0 := D1.out k (by omega)
      have d1 := D1.out (k + 1) (by omega)
      have htw := HT.out k hlt
      have hps := piecesK_succ s l k
      obtain ⟨a, ha⟩ : ∃ a, l.getD k 0 = a := ⟨_, rfl⟩
      obtain ⟨b, hb⟩ : ∃ b, l.getD (k + 1) 0 = b := ⟨_, rfl⟩
      rw [ha] at d0 htw hps
      rw [hb] at d1 htw hps
      rw [← HX.out.2.cell (p := ⟨g, k, none⟩) hg2] at d0
      rw [← HX.out.2.cell (p := ⟨g, k + 1, none⟩) hg2] at d1
      obtain ⟨ha0, hab, hbs⟩ := htw
      have HPS := Lib.hid hps
      clear ha hb hps
      have HO := Lib.hid HX.out.1
      have HB := aside HX.out.2
      have hsz := HX.out.2.size
      have ag : u4.ownBlock ≠ some g := fun e => by have := (HX.out.1.lt g e).1; omega
      have hi0' : (0 : Int) ≤ (k : Int) := Int.natCast_nonneg _
      have hwr1 : IntKind.i64.wrap ((k : Int) + 1 - 1) = (k : Int) := by rw [show (k : Int) + 1 - 1 = k by omega]; exact wrap_in _ (by omega) (by omega)
      have hwr2 : IntKind.i64.wrap (k : Int) = (k : Int) := wrap_in _ (by omega) (by omega)
      have hi1 : (k : Int) < ((n + 1 : Nat) : Int) := by omega
      have hi2 : (0 : Int) ≤ (k : Int) + 1 := by omega
      have hi3 : (k : Int) + 1 < ((n + 1 : Nat) : Int) := by omega
      have hi4 : (k : Int) < (n : Int) + 1 := by omega
      have hi5 : (k : Int) + 1 < (n : Int) + 1 := by omega
      have hi6 : a ≤ b := by omega
      have hi7 : 0 ≤ b := by omega
      go_wp2_with fail
      go_region_held3 (fun w' => w'.cell? ⟨g, k, none⟩ = some (.int .i64 a) ∧ w'.cell? ⟨g, k + 1, none⟩ = some (.int .i64 b))
        (first
          | go_keep
          | (go_split_ands
             refine ⟨?_, ?_⟩
             · (rw [hgrow.cell_far _ (by simp; omega) (Ne.symm ag)]; assumption)
             · (rw [hgrow.cell_far _ (by simp; omega) (Ne.symm ag)]; assumption)))
        ((refine step_append_lies _ (by rfl) _ _ _ (by rfl) w1.heap.size 9 i0 _ 1 16 Tryd.underlying38 hi hz0 hz1 hz2 rfl (by omega) u4 k (strs (piecesK s l k)) (by rfl) ((HO.out.alloc _).drew)
            ⟨wr.heap.size, 0, none⟩ 1 1 [.string (s.extract a.toNat b.toNat)] (by rfl) (by rfl) (World.news_of_block (cs := #[.string (s.extract a.toNat b.toNat)]) (t := 9) (fr := (0, 0)) (heap_alloc_new wr _)) (by simp [Value.oneCell'])
            (by omega) (by unfold maxLen; omega) (by omega) (by simp; omega) (wr.heap.size + 1) (by simp) ?_; intro gg cap w3 hown' hgrow hat hlt3))
      have X : Aside (w3.ownsRow w1.heap.size 9 1 (.slice (some ⟨gg, 0, none⟩) (k + 1) cap) (k + 1) (strs (piecesK s l (k + 1))) ∧ Below w1.heap.size w1 w3) :=
        ⟨by rw [HPS.out, strs_append]; exact hown', Below.grown (below_drewN (HB.out.alloc hsz _) 1) hgrow (by simp; omega) (fun j hj => by have := (HO.out.lt _ hj).1; omega)⟩
      clear hown' hgrow hat
      go_wp2
      go_roundw
      case rel => exact ⟨k + 1, by go_num, by omega, X⟩
      case measure => simp [intOf]; omega
    · obtain rfl : k = n := by omega
      go_wp2_with fail
      go_ret
      exact ⟨_, rfl, by rw [← HFIN.out]; exact own_base HX.out.1 hs1, B1.out.trans (HX.out.2.mono hs1)⟩

end Go.Proofs.YtaocnnebfnlgiaaDoor
