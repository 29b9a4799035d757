/-
  Contracts: First, Last of the program's clusters.
-/
import Derived.Test.YtaocnnebfnlgiaaStartsR
import Derived.WalkMore
namespace Go.Proofs.Ytaocnnebfnlgiaa
open Go.RowKit

theorem startsC_app : ∀ (a pa b pb : List Int) (s : RS), a.length = pa.length → startsC s (a ++ b) (pa ++ pb) = startsC s a pa ++ startsC (a.foldl (fun s c => rNext s (ofI c)) s) b pb
  | [], [], b, pb, s, _ => rfl
  | c :: a, p :: pa, b, pb, s, h => by
    have ih := startsC_app a pa b pb (rNext s (ofI c)) (by simpa using h)
    show (if rIs s (ofI c) = true then [] else [p]) ++ startsC (rNext s (ofI c)) (a ++ b) (pa ++ pb) = ((if rIs s (ofI c) = true then [] else [p]) ++ startsC (rNext s (ofI c)) a pa) ++ _
    rw [ih, List.append_assoc]
    rfl
theorem startsC_split (cs ps : List Int) (k : Nat) (h : cs.length = ps.length) : startsC rs0 cs ps = startsC rs0 (cs.take k) (ps.take k) ++ startsC (rRun ((cs.take k).map ofI)) (cs.drop k) (ps.drop k) := by
  have e := startsC_app (cs.take k) (ps.take k) (cs.drop k) (ps.drop k) rs0 (by simp; omega)
  rw [List.take_append_drop, List.take_append_drop, fold_run] at e
  exact e
def firstI (s : ByteArray) : Int := if clen s = 0 then 0 else (cstarts s).getD 1 0
/-- All so far are joined to the first one. -/
def OneSo (cs ps : List Int) (k : Nat) : Prop := startsC rs0 (cs.take k) (ps.take k) = ps.take (min k 1)
theorem oneSo_zero (cs ps : List Int) : OneSo cs ps 0 := rfl
theorem joinedB_nil (c : Int) : joinedB [] c = false := rfl
theorem oneSo_one (cs ps : List Int) (h1 : 0 < cs.length) (h2 : 0 < ps.length) : OneSo cs ps 1 := by
  unfold OneSo
  have e := startsC_take cs ps 0 h1 h2
  rw [List.take_zero, joinedB_nil] at e
  rw [Nat.zero_add] at e
  rw [e]
  cases ps with
  | nil => simp at h2
  | cons p ps => simp [startsC]
theorem oneSo_succ (cs ps : List Int) (k : Nat) (h1 : k < cs.length) (h2 : k < ps.length) (h0 : 0 < k) (h : OneSo cs ps k) (hj : joinedB (cs.take k) (cs.getD k 0) = true) : OneSo cs ps (k + 1) := by
  unfold OneSo at h ⊢
  rw [startsC_take cs ps k h1 h2, h, hj, if_pos rfl, List.append_nil]
  congr 1
  omega
theorem first_end (s : ByteArray) (h : OneSo (chars s) (starts0 s) (chars s).length) : firstI s = if (chars s).length = 0 then 0 else (s.size : Int) := by
  unfold OneSo at h
  have hl := chars_len s
  rw [List.take_length, hl, List.take_length] at h
  have e : cstarts s = (starts0 s).take (min (starts0 s).length 1) ++ [(s.size : Int)] := by unfold cstarts; rw [h]
  have hc := cstarts_len s
  rw [hl]
  by_cases h0 : (starts0 s).length = 0
  · rw [if_pos h0]
    rw [e] at hc
    rw [h0] at hc
    simp at hc
    unfold firstI
    rw [if_pos (by omega)]
  · rw [if_neg h0]
    rw [e, List.length_append, List.length_take] at hc
    simp at hc
    unfold firstI
    rw [if_neg (by omega), e, List.getD_eq_getElem?_getD, List.getElem?_append_right (by simp; omega)]
    have : min (starts0 s).length 1 = 1 := by omega
    simp [this]
    have : min 1 (starts0 s).length = 1 := by omega
    simp [this]
theorem first_mid (s : ByteArray) (k : Nat) (h0 : 0 < k) (hk : k < (chars s).length) (h : OneSo (chars s) (starts0 s) k) (hj : joinedB ((chars s).take k) ((chars s).getD k 0) = false) : firstI s = (starts0 s).getD k 0 := by
  have hl := chars_len s
  have e := startsC_split (chars s) (starts0 s) (k + 1) hl
  rw [startsC_take _ _ k hk (by omega), h, hj] at e
  obtain ⟨r, hr⟩ : ∃ r, startsC (rRun (((chars s).take (k + 1)).map ofI)) ((chars s).drop (k + 1)) ((starts0 s).drop (k + 1)) = r := ⟨_, rfl⟩
  rw [hr] at e
  cases hp : starts0 s with
  | nil =>
    have hz : (chars s).length = 0 := by rw [hl, hp]; rfl
    omega
  | cons p ps =>
    have hm : min k 1 = 1 := by omega
    rw [hp, hm] at e
    have e2 : cstarts s = p :: (p :: ps).getD k 0 :: (r ++ [(s.size : Int)]) := by
      unfold cstarts
      rw [hp, e]
      simp
    have hc := cstarts_len s
    rw [e2] at hc
    simp at hc
    unfold firstI
    rw [if_neg (by omega), e2]
    rfl

set_option maxRecDepth 100000 in
set_option maxHeartbeats 4000000 in
theorem cfirst_any (s : ByteArray) (w : World) (hs : s.size ≤ 1000) :
    Calls Try.prog 27 #[.string s] w fun e w' => e = .returned (.int .i64 (firstI s)) ∧ Below w.heap.size w w' := by
  have CS := Lib.hid (fun W : World => ustarts_any s W (by omega))
  have CA := Lib.hid (fun W : World => uall_any s W (by omega))
  have hcl := chars_len_le s
  have hcs := chars_len s
  have hbd : ∀ j, j < (chars s).length → 0 ≤ (chars s).getD j 0 ∧ (chars s).getD j 0 ≤ 2147483647 := by
    intro j hj
    have e : (chars s).getD j 0 = (chars s)[j] := by simp [hj]
    rw [e]
    exact charsFrom_bd s _ _ _ (List.getElem_mem hj)
  have hst : ∀ j, j < (chars s).length → (starts s).getD j 0 = (starts0 s).getD j 0 := by
    intro j hj
    unfold starts
    rw [List.getD_eq_getElem?_getD, List.getD_eq_getElem?_getD, List.getElem?_append_left (by omega)]
  have hst2 : (starts s).getD (chars s).length 0 = s.size := by
    unfold starts
    rw [List.getD_eq_getElem?_getD, List.getElem?_append_right (by omega), hcs]
    simp
  have hq0 : (starts s).getD 0 0 = 0 := by
    by_cases h : s.size = 0
    · have e : starts0 s = [] := by unfold starts0; rw [h]; rfl
      unfold starts
      rw [e, h]; rfl
    · have e : starts0 s = ((0 : Nat) : Int) :: startsFrom s (s.size - 1) (0 + (Utf8.decode s 0).2) := by
        unfold starts0
        rw [show s.size = s.size - 1 + 1 by omega]
        have := startsFrom_step s (s.size - 1) 0 (by omega)
        simpa using this
      unfold starts
      rw [e]; rfl
  have hfe := first_end s
  have hfm := first_mid s
  have hlen2 : (starts s).length = (chars s).length + 1 := by unfold starts; rw [List.length_append, ← hcs]; rfl
  obtain ⟨cs, hC⟩ : ∃ cs, chars s = cs := ⟨_, rfl⟩
  obtain ⟨ps, hP⟩ : ∃ ps, starts0 s = ps := ⟨_, rfl⟩
  obtain ⟨qs, hQ⟩ : ∃ qs, starts s = qs := ⟨_, rfl⟩
  obtain ⟨fi, hF⟩ : ∃ fi, firstI s = fi := ⟨_, rfl⟩
  rw [hC] at CA hcl hcs hbd hst hst2 hlen2 hfe hfm
  rw [hP] at hcs hst hfe hfm
  rw [hQ] at CS hst hst2 hlen2 hq0
  rw [hF] at hfe hfm ⊢
  have HBD := Lib.hid hbd
  have HST := Lib.hid hst
  have HST2 := Lib.hid hst2
  have HQ0 := Lib.hid hq0
  have HCS := Lib.hid hcs
  have HL2 := Lib.hid hlen2
  have HFE := Lib.hid hfe
  have HFM := Lib.hid hfm
  clear hC hP hQ hF hbd hst hst2 hcs hlen2 hfe hfm hq0
  go_enter Try.func27, Try.ntmps27
  go_wp2
  go_step3
  go_wp2_with fail
  refine (reader_any w).mono ?_
  rintro e w1 ⟨rfl, hr1, b1, hs1⟩
  have R1 := Lib.hid hr1
  have B1 := aside b1
  have HS1 := Lib.hid hs1
  clear hr1 b1 hs1
  simp only [rClo]
  go_wp2_with fail
  go_step3
  go_wp2_with fail
  refine (CA.out w1).mono ?_
  rintro e w3 ⟨v3, rfl, o3, b3⟩
  have R3 := Lib.hid (R1.out.below b3 (Nat.le_refl _))
  have O3 := Lib.hid o3
  have B3 := aside (B1.out.trans (b3.mono B1.out.size))
  have hs3 := b3.size
  clear o3 b3
  have hform3 : ∃ A c, v3 = .slice A cs.length c ∧ cs.length ≤ c ∧ c ≤ 9223372036854775807 ∧ ((∃ g, A = some ⟨g, 0, none⟩ ∧ w1.heap.size + 1 ≤ g ∧ g < w3.heap.size) ∨ cs.length ≤ 0) := by
    have h := O3.out
    rcases h.2 with ⟨h1, h0⟩ | ⟨g, cap, cur, h1, hg, hh, hc, hm, _⟩
    · exact ⟨none, 0, by rw [h1, h0], by omega, by omega, .inr (by omega)⟩
    · exact ⟨_, cap, h1, hc, hm, .inl ⟨g, rfl, hg, (Array.getElem?_eq_some_iff.1 hh).1⟩⟩
  obtain ⟨A3, c3, rfl, hc31, hc32, hA3⟩ := hform3
  rcases hA3 with ⟨g3, rfl, hg31, hg32⟩ | hn
  all_goals
    go_wp2_with fail
    go_loopw [4, 11] (fun vn i wr => ∃ k : Nat, i = .int .i64 k ∧ k ≤ cs.length ∧ vn = .int .i64 (qs.getD k 0) ∧ Aside (OneSo cs ps k ∧ RCells wr w.heap.size (rRun ((cs.take k).map ofI)) ∧ Rk w.heap.size w3 wr)) (fun _ i _ => cs.length - (intOf i).toNat)
    case atStart => exact ⟨0, rfl, by omega, by rw [HQ0.out], oneSo_zero _ _, R3.out, Rk.refl _ _⟩
    case round =>
      obtain ⟨k, rfl, hk, rfl, HX⟩ := hrel
      by_cases hlt : k < cs.length
      · first
          | (exfalso; omega)
          | (have hB5 := HS1.out
             have hlp : k < ps.length := by have := HCS.out; omega
             have e3 := O3.out.cellAt k (by omega)
             rw [ints_get cs k hlt] at e3
             rw [← HX.out.2.2.cell (p := ⟨g3, k, none⟩) hg32 (.inr (by simp only; omega))] at e3
             have hxb := HBD.out k hlt
             have hrt := run_take cs k hlt
             have hfl := run_flags cs k
             have hst := HST.out k hlt
             have hone : ∀ c, cs.getD k 0 = c → rIs (rRun ((cs.take k).map ofI)) (ofI c) = joinedB (cs.take k) c := fun _ _ => rfl
             have hn1 : 0 < k → joinedB (cs.take k) (cs.getD k 0) = true → OneSo cs ps (k + 1) := fun h0 h => oneSo_succ cs ps k hlt hlp h0 HX.out.1 h
             have hn0 : k = 0 → OneSo cs ps (k + 1) ∧ joinedB (cs.take k) (cs.getD k 0) = false := fun h0 => by subst h0; exact ⟨oneSo_one cs ps hlt hlp, rfl⟩
             have hbr : 0 < k → joinedB (cs.take k) (cs.getD k 0) = false → fi = ps.getD k 0 := fun h0 h => HFM.out k h0 hlt HX.out.1 h
             obtain ⟨c, hc⟩ : ∃ c, cs.getD k 0 = c := ⟨_, rfl⟩
             rw [hc] at e3 hxb hrt hn1 hn0 hbr
             obtain ⟨hx0, hx1⟩ := hxb
             have HRT := Lib.hid hrt
             have HFL := Lib.hid hfl
             have CT := Lib.hid (rstep_any w.heap.size _ c wr HX.out.2.1 (by omega) (by omega) HFL.out.1 (by have := HFL.out.2; omega))
             rw [hone c hc] at CT
             obtain ⟨isb, hisb⟩ : ∃ isb, joinedB (cs.take k) c = isb := ⟨_, rfl⟩
             rw [hisb] at CT hn1 hn0 hbr
             have HN1 := Lib.hid hn1
             have HN0 := Lib.hid hn0
             have HBR := Lib.hid hbr
             have HST1 := Lib.hid hst
             clear hrt hfl hc hisb hst hone hn1 hn0 hbr
             by_cases hk0 : k = 0
             · obtain ⟨hnx, hib⟩ := HN0.out hk0
               subst hib
               have HNX := Lib.hid hnx
               have hd : decide (0 < k) = false := by simp; omega
               have hd2 : decide ((0 : Int) < (k : Int)) = false := by simp; omega
               have HK0 := Lib.hid hk0
               clear hnx hk0
               go_wp2_with fail
               refine CT.out.mono ?_
               rintro e w4 ⟨rfl, hr4, k4⟩
               rw [← HRT.out] at hr4
               have R4 := Lib.hid hr4
               have K4 := aside (HX.out.2.2.trans k4)
               clear hr4 k4
               go_wp2_with fail
               refine (CS.out w4).mono ?_
               rintro e w5 ⟨v5, rfl, o5, b5⟩
               have R5 := Lib.hid (R4.out.below b5 (Nat.le_refl _))
               have X5 : Aside (OneSo cs ps (k + 1) ∧ RCells w5 w.heap.size (rRun ((cs.take (k + 1)).map ofI)) ∧ Rk w.heap.size w3 w5) := ⟨HNX.out, R5.out, K4.out.trans (Rk.of_below b5 (Nat.le_refl _))⟩
               have hform5 : ∃ g c, v5 = .slice (some ⟨g, 0, none⟩) (cs.length + 1) c ∧ w5.cell? ⟨g, k + 1, none⟩ = some (.int .i64 (qs.getD (k + 1) 0)) := by
                 rcases o5.2 with ⟨h1, h0⟩ | ⟨g, cap, cur, h1, _⟩
                 · rw [HL2.out] at h0; omega
                 · rw [HL2.out] at h1
                   subst h1
                   have h := o5
                   rw [HL2.out] at h
                   exact ⟨g, cap, rfl, by rw [h.cellAt (k + 1) (by omega), ints_get qs (k + 1) (by rw [HL2.out]; omega)]⟩
               obtain ⟨g5, c5, rfl, e5⟩ := hform5
               have hwr1 : IntKind.i64.wrap ((k : Int) + 1) = (k : Int) + 1 := wrap_in _ (by omega) (by omega)
               have hi2 : (0 : Int) ≤ (k : Int) + 1 := by omega
               have hi3 : (k : Int) + 1 < ((cs.length + 1 : Nat) : Int) := by omega
               have hi5 : (k : Int) + 1 < (cs.length : Int) + 1 := by omega
               clear o5 b5
               go_wp2
               go_roundw
               case rel => exact ⟨k + 1, by go_num, by omega, rfl, X5⟩
               case measure => simp [intOf]; omega
             · have hd : decide (0 < k) = true := by simp; omega
               have hd2 : decide ((0 : Int) < (k : Int)) = true := by simp; omega
               cases isb
               · have HFI := Lib.hid (HBR.out (by omega) rfl)
                 go_wp2_with fail
                 refine CT.out.mono ?_
                 rintro e w4 ⟨rfl, hr4, k4⟩
                 have K4 := aside (HX.out.2.2.trans k4)
                 clear hr4 k4
                 go_wp2
                 try rw [Exit.noGoto_ret]
                 go_ret
                 exact ⟨ret_int (by show qs.getD k 0 = fi; rw [HST1.out, HFI.out]), B3.out.trans (K4.out.below (by omega))⟩
               · have HNX := Lib.hid (HN1.out (by omega) rfl)
                 go_wp2_with fail
                 refine CT.out.mono ?_
                 rintro e w4 ⟨rfl, hr4, k4⟩
                 rw [← HRT.out] at hr4
                 have R4 := Lib.hid hr4
                 have K4 := aside (HX.out.2.2.trans k4)
                 clear hr4 k4
                 go_wp2_with fail
                 refine (CS.out w4).mono ?_
                 rintro e w5 ⟨v5, rfl, o5, b5⟩
                 have R5 := Lib.hid (R4.out.below b5 (Nat.le_refl _))
                 have X5 : Aside (OneSo cs ps (k + 1) ∧ RCells w5 w.heap.size (rRun ((cs.take (k + 1)).map ofI)) ∧ Rk w.heap.size w3 w5) := ⟨HNX.out, R5.out, K4.out.trans (Rk.of_below b5 (Nat.le_refl _))⟩
                 have hform5 : ∃ g c, v5 = .slice (some ⟨g, 0, none⟩) (cs.length + 1) c ∧ w5.cell? ⟨g, k + 1, none⟩ = some (.int .i64 (qs.getD (k + 1) 0)) := by
                   rcases o5.2 with ⟨h1, h0⟩ | ⟨g, cap, cur, h1, _⟩
                   · rw [HL2.out] at h0; omega
                   · rw [HL2.out] at h1
                     subst h1
                     have h := o5
                     rw [HL2.out] at h
                     exact ⟨g, cap, rfl, by rw [h.cellAt (k + 1) (by omega), ints_get qs (k + 1) (by rw [HL2.out]; omega)]⟩
                 obtain ⟨g5, c5, rfl, e5⟩ := hform5
                 have hwr1 : IntKind.i64.wrap ((k : Int) + 1) = (k : Int) + 1 := wrap_in _ (by omega) (by omega)
                 have hi2 : (0 : Int) ≤ (k : Int) + 1 := by omega
                 have hi3 : (k : Int) + 1 < ((cs.length + 1 : Nat) : Int) := by omega
                 have hi5 : (k : Int) + 1 < (cs.length : Int) + 1 := by omega
                 clear o5 b5
                 go_wp2
                 go_roundw
                 case rel => exact ⟨k + 1, by go_num, by omega, rfl, X5⟩
                 case measure => simp [intOf]; omega)
      · obtain rfl : k = cs.length := by omega
        have hB5 := HS1.out
        have HE : Hid (fi = qs.getD cs.length 0) := by
          show _ = _
          rw [HFE.out HX.out.1, HST2.out]
          split
          · rename_i h0
            have := HST2.out
            rw [h0, HQ0.out] at this
            exact this
          · rfl
        have K4 := aside HX.out.2.2
        go_wp2
        try rw [Exit.noGoto_ret]
        go_ret
        exact ⟨ret_int HE.out.symm, B3.out.trans (K4.out.below (by omega))⟩

def lastI (s : ByteArray) : Int := if clen s = 0 then 0 else (cstarts s).getD (clen s) 0 - (cstarts s).getD (clen s - 1) 0

set_option maxRecDepth 100000 in
set_option maxHeartbeats 4000000 in
theorem clast_any (s : ByteArray) (w : World) (hs : s.size ≤ 1000) :
    Calls Try.prog 28 #[.string s] w fun e w' => e = .returned (.int .i64 (lastI s)) ∧ Below w.heap.size w w' := by
  have CS := Lib.hid (fun W : World => cstarts_any s W hs)
  have hlen := cstarts_len s
  have hcl := clen_le s
  have htwo := cstarts_two s
  have hla : lastI s = if clen s = 0 then 0 else (cstarts s).getD (clen s) 0 - (cstarts s).getD (clen s - 1) 0 := rfl
  obtain ⟨n, hn⟩ : ∃ n, clen s = n := ⟨_, rfl⟩
  obtain ⟨l, hl⟩ : ∃ l, cstarts s = l := ⟨_, rfl⟩
  obtain ⟨la, hlla⟩ : ∃ la, lastI s = la := ⟨_, rfl⟩
  rw [hlla, hn, hl] at hla
  rw [hn] at hlen hcl htwo
  rw [hl] at hlen htwo CS
  rw [hlla]
  have HLEN := Lib.hid hlen
  have HT := Lib.hid htwo
  have HLA := Lib.hid hla
  clear hn hl hlla hlen htwo hla
  go_enter Try.func28, Try.ntmps28
  go_wp2_with fail
  refine (CS.out w).mono ?_
  rintro e w1 ⟨v, rfl, o1, b1⟩
  have O1 := Lib.hid o1
  have B1 := aside b1
  clear o1 b1
  have hform : ∃ g c, v = .slice (some ⟨g, 0, none⟩) (n + 1) c := by
    have h := O1.out
    rcases h.2 with ⟨h1, h0⟩ | ⟨g, cap, cur, h1, _⟩
    · rw [HLEN.out] at h0; omega
    · rw [HLEN.out] at h1
      exact ⟨g, cap, h1⟩
  obtain ⟨g, c, rfl⟩ := hform
  have D1 : Hid (∀ j, j < n + 1 → w1.cell? ⟨g, j, none⟩ = some (.int .i64 (l.getD j 0))) := by
    intro j hj
    have h := O1.out
    rw [HLEN.out] at h
    rw [h.cellAt j (by omega), ints_get l j (by rw [HLEN.out]; omega)]
  by_cases h0 : n = 0
  · have HE : Hid (la = 0) := by show _ = _; rw [HLA.out, if_pos h0]
    have hd : ((n : Int) + 1 < 2) := by omega
    have hd2 : decide ((n : Int) + 1 < 2) = true := by simp; omega
    go_wp2
    go_ret
    exact ⟨ret_int HE.out.symm, B1.out⟩
  · obtain ⟨m, rfl⟩ : ∃ m, n = m + 1 := ⟨n - 1, by omega⟩
    have d0 := D1.out m (by omega)
    have d1 := D1.out (m + 1) (by omega)
    have htw := HT.out m (by omega)
    have HE : Hid (la = l.getD (m + 1) 0 - l.getD m 0) := by show _ = _; rw [HLA.out, if_neg h0]; rfl
    obtain ⟨a, ha⟩ : ∃ a, l.getD m 0 = a := ⟨_, rfl⟩
    obtain ⟨b, hb⟩ : ∃ b, l.getD (m + 1) 0 = b := ⟨_, rfl⟩
    rw [ha] at d0 htw HE
    rw [hb] at d1 htw HE
    obtain ⟨ha0, hab, hbs⟩ := htw
    clear ha hb
    have hd : ¬ ((m : Int) + 1 + 1 < 2) := by omega
    have hw1 : IntKind.i64.wrap ((m : Int) + 1 + 1 - 1) = (m : Int) + 1 := by rw [show (m : Int) + 1 + 1 - 1 = m + 1 by omega]; exact wrap_in _ (by omega) (by omega)
    have hw2 : IntKind.i64.wrap ((m : Int) + 1 + 1 - 2) = (m : Int) := by rw [show (m : Int) + 1 + 1 - 2 = m by omega]; exact wrap_in _ (by omega) (by omega)
    have hw3 : IntKind.i64.wrap ((m : Int) + 1) = (m : Int) + 1 := wrap_in _ (by omega) (by omega)
    have hw4 : IntKind.i64.wrap (b - a) = b - a := wrap_in _ (by omega) (by omega)
    have hi0 : (0 : Int) ≤ (m : Int) := by omega
    have hi1 : (m : Int) < (m : Int) + 1 + 1 := by omega
    have hi2 : (0 : Int) ≤ (m : Int) + 1 := by omega
    have hi3 : (m : Int) + 1 < (m : Int) + 1 + 1 := by omega
    go_wp2
    go_quiet (fail)
    go_wp2
    go_ret
    exact ⟨ret_int HE.out.symm, below_drewN B1.out _⟩

end Go.Proofs.Ytaocnnebfnlgiaa
