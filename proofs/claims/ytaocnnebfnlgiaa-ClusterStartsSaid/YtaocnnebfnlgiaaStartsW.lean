/-
  The walk of ClusterStarts.
-/
import Derived.Test.YtaocnnebfnlgiaaFirstC
import Derived.Test.YtaocnnebfnlgiaaTexts
import Derived.Test.YtaocnnebfnlgiaaRJoin
import Derived.Test.YtaocnnebfnlgiaaKinds
import Derived.Test.YtaocnnebfnlgiaaFew
namespace Go.Proofs.Ytaocnnebfnlgiaa
open Go.RowKit

theorem cstarts_zero (s : ByteArray) : (cstarts s).getD 0 0 = 0 := by
  by_cases h : s.size = 0
  · have e1 : starts0 s = [] := by unfold starts0; rw [h]; rfl
    have e2 : chars s = [] := List.eq_nil_of_length_eq_zero (by rw [chars_len, e1]; rfl)
    unfold cstarts
    rw [e1, e2, h]; rfl
  · have e1 : starts0 s = ((0 : Nat) : Int) :: startsFrom s (s.size - 1) (0 + (Utf8.decode s 0).2) := by
      have := startsFrom_step s (s.size - 1) 0 (by omega)
      rw [show s.size - 1 + 1 = s.size by omega] at this
      exact this
    have hl := chars_len s
    rw [e1] at hl
    cases hc : chars s with
    | nil => rw [hc] at hl; simp at hl
    | cons c cs =>
      unfold cstarts
      rw [e1, hc]
      rfl
theorem cstarts_last (s : ByteArray) : (cstarts s).getD (clen s) 0 = s.size := by
  have h := cstarts_len s
  unfold cstarts at h ⊢
  rw [List.length_append] at h
  simp only [List.length_cons, List.length_nil] at h
  rw [List.getD_eq_getElem?_getD, List.getElem?_append_right (by omega)]
  have : clen s - (startsC rs0 (chars s) (starts0 s)).length = 0 := by omega
  rw [this]; rfl
theorem extract_next (s : ByteArray) (a b : Nat) (h : a ≤ b) (hb : b ≤ s.size) : s.extract 0 a ++ s.extract a b = s.extract 0 b := by
  apply ba_ext
  rw [ByteArray.data_append, Array.toList_append, Lib.extract_data, Lib.extract_data, Lib.extract_data]
  simp only [List.drop_zero, Nat.sub_zero]
  rw [← List.take_add]
  congr 1
  omega
theorem extract_all (s : ByteArray) : s.extract 0 s.size = s := by
  apply ba_ext
  simp [Lib.extract_data]

theorem extract_none (s : ByteArray) : s.extract 0 0 = ⟨#[]⟩ := by
  apply ba_ext
  rw [Lib.extract_data]
  simp
theorem piecesK_get (s : ByteArray) (l : List Int) (k j : Nat) (h : j < k) : (piecesK s l k).getD j ⟨#[]⟩ = s.extract (l.getD j 0).toNat (l.getD (j + 1) 0).toNat := by
  unfold piecesK
  rw [List.getD_eq_getElem?_getD, List.getElem?_map, List.getElem?_range h]
  rfl

set_option maxRecDepth 100000 in
set_option maxHeartbeats 4000000 in
theorem clusterStarts_walk (s0 : ByteArray) (v0 : Value) (l : List Int) (w : World) (hs0 : s0.size ≤ 9223372036854775807) (hv : IsInts w v0 l) (hb : ∀ x ∈ l, -9223372036854775808 ≤ x ∧ x ≤ 9223372036854775807) (hl : l.length ≤ 9223372036854775807) :
    Calls Try.prog 6 #[.string s0, v0] w fun e w' => e = .returned (.bool true) ∧ Below w.heap.size w w' := by
  obtain ⟨i0, hi, hz0, hz1, hz2⟩ := info_parts info_int5
  have HBD := Lib.hid (mem_bd3 hb)
  have HF := Lib.hid (fun W : World => few_any s0 40 W hs0 (by omega))
  have hle := fewS_le s0 40
  obtain ⟨t0, ht0⟩ : ∃ t, fewS s0 40 = t := ⟨_, rfl⟩
  rw [ht0] at HF hle
  clear ht0
  obtain ⟨A, ca, rfl, hlc, hcm, hA⟩ := ints_cases hv
  obtain ⟨p, hp10, hpl, hpm⟩ : ∃ p, p ≤ 10 ∧ p ≤ l.length ∧ (p = 10 ∨ p = l.length) := ⟨min l.length 10, by omega, by omega, by omega⟩
  have HPM := Lib.hid hpm
  clear hb hv hpm
  rcases hA with ⟨b, off, rfl, HC⟩ | ⟨_, hn⟩
  all_goals
    go_enter Try.func6, Try.ntmps6
    go_wp2_with fail
    go_loopw [5, 6] (fun vo i wr => ∃ k : Nat, i = .int .i64 k ∧ k ≤ p ∧ Aside (wr.ownsRow w.heap.size 3 1 vo k (ints ((l.take k).map kindI)) ∧ Below w.heap.size w wr)) (fun _ i _ => p - (intOf i).toNat)
    case atStart => exact ⟨0, rfl, by omega, World.ownsRow_nil _ _ _ _, Below.refl _ _⟩
    case round =>
      obtain ⟨k, rfl, hk, HX⟩ := hrel
      by_cases hlt : k < p
      · first
          | (exfalso; omega)
          | (have d0 := HC.out k (by omega)
             rw [← HX.out.2.cell (p := ⟨b, off + k, none⟩) (World.block_lt_of_cell? _ _ d0)] at d0
             have hxb := HBD.out k (by omega)
             have hgs := kinds_snoc l k (by omega)
             obtain ⟨x, hx⟩ : ∃ x, l.getD k 0 = x := ⟨_, rfl⟩
             rw [hx] at d0 hxb hgs
             obtain ⟨hx0, hx1⟩ := hxb
             have hszw := HX.out.2.size
             have HO := Lib.hid HX.out.1
             have HGS := Lib.hid hgs
             have hkl : k < l.length := by omega
             have hk10 : k < 10 := by omega
             clear hx hgs
             obtain ⟨gx, hgx⟩ : ∃ gx, kindI x = gx := ⟨_, rfl⟩
             have CG := fun W : World => kind_any x W hx0 hx1
             rw [hgx] at CG HGS
             clear hgx
             go_wp2_with fail
             refine (CG wr).mono ?_
             rintro e w1 ⟨rfl, b1⟩
             have O1 := Lib.hid (own_below HO.out b1 (Nat.le_refl _))
             have B1 := aside (HX.out.2.trans (b1.mono hszw))
             have hsz1 := B1.out.size
             clear b1
             go_wp2_with (first
               | (at_builtin
                  refine wpList_append_own _ rfl (.tmp 26) (.tmp 32) 22 rfl w.heap.size 3 i0 (.int .i64 0) 1 8 Try.underlying22 hi hz0 hz1 hz2 rfl (by decide) _ _ _ rfl (O1.out.alloc _) ⟨w1.heap.size, 0, none⟩ 1 1 [.int .i64 gx] rfl rfl (cell_one_new _ _ _) (fun x hx => by simp at hx; subst hx; rfl) (by unfold maxLen; omega) (by omega) (by simp; omega) ?_
                  intro v' w3 hown' hgrow3 hnil3
                  have X : Aside (w3.ownsRow w.heap.size 3 1 v' (k + 1) (ints ((l.take (k + 1)).map kindI)) ∧ Below w.heap.size w w3) := ⟨by rw [HGS.out, ints_append]; exact hown', Below.grown (B1.out.alloc (by omega) _) hgrow3 (by simp; omega) (fun j hj => by have := (O1.out.lt _ hj).1; omega)⟩
                  clear hown' hgrow3 hnil3))
             go_roundw
             case rel => exact ⟨k + 1, by go_num, by omega, X⟩
             case measure => simp [intOf]; omega)
      · obtain rfl : k = p := by omega
        have hex : l.length ≤ k ∨ (k < l.length ∧ 10 ≤ k) := by
          have := HPM.out
          omega
        have hlen : ((l.take k).map kindI).length = k := by simp; omega
        have ho := HX.out.1
        have HB := aside HX.out.2
        have hszb := HX.out.2.size
        have hjl := joinL_len ((l.take k).map kindI)
        obtain ⟨G, hG⟩ : ∃ G, (l.take k).map kindI = G := ⟨_, rfl⟩
        rw [hG] at hlen ho hjl
        rw [← hlen] at ho
        have IG := Lib.hid (IsInts.of_own ho)
        have CJ := Lib.hid (fun (W : World) (v : Value) (h : IsInts W v G) => rjoin_any G v W h (by omega))
        obtain ⟨jb, hjb⟩ : ∃ jb, joinL G = jb := ⟨_, rfl⟩
        rw [hjb] at CJ hjl
        have hj40 : jb.length ≤ 40 := by omega
        clear hG hlen ho hjl hjb HX
        rcases hex with hex | ⟨hex1, hex2⟩
        all_goals try (exfalso; omega)
        all_goals
          go_wp2_with fail
          refine (HF.out _).mono ?_
          rintro e w' ⟨rfl, rfl⟩
          go_wp2_with fail
          refine (CJ.out _ _ IG.out).mono ?_
          rintro e w1 ⟨rfl, b1⟩
          have B1 := aside (HB.out.trans (b1.mono hszb))
          clear b1
          go_wp2_with fail
          have HA0 : Hid ((w1.alloc (.cells #[.string t0, .string ⟨jb.toArray⟩] 9)).cell? ⟨w1.heap.size, 0, none⟩ = some (.string t0)) := by show _ = _; simp [World.cell?_alloc_new]
          have HA1 : Hid ((w1.alloc (.cells #[.string t0, .string ⟨jb.toArray⟩] 9)).cell? ⟨w1.heap.size, 1, none⟩ = some (.string ⟨jb.toArray⟩)) := by show _ = _; simp [World.cell?_alloc_new]
          have HB2 := aside (B1.out.alloc B1.out.size (.cells #[.string t0, .string ⟨jb.toArray⟩] 9))
          have hg0 : w1.heap.size < (w1.alloc (.cells #[.string t0, .string ⟨jb.toArray⟩] 9)).heap.size := by simp
          obtain ⟨W2, hW2⟩ : ∃ W2, w1.alloc (.cells #[.string t0, .string ⟨jb.toArray⟩] 9) = W2 := ⟨_, rfl⟩
          rw [hW2] at HA0 HA1 HB2 hg0 ⊢
          obtain ⟨g0, hg00⟩ : ∃ g0, w1.heap.size = g0 := ⟨_, rfl⟩
          rw [hg00] at HA0 HA1 hg0 ⊢
          have HTX : Hid (∀ q, q < 2 → ∃ T : ByteArray, T.size ≤ 40 ∧ W2.cell? ⟨g0, q, none⟩ = some (.string T)) := by
            intro q hq
            have : q = 0 ∨ q = 1 := by omega
            rcases this with rfl | rfl
            · exact ⟨t0, by omega, HA0.out⟩
            · exact ⟨_, by show jb.toArray.size ≤ _; rw [List.size_toArray]; omega, HA1.out⟩
          clear hW2 HA0 HA1 B1 HB CJ hj40 hg00 IG HF hle
          go_loopw [8] (fun i wr => ∃ q : Nat, i = .int .i64 q ∧ q ≤ 2 ∧ Aside (Below W2.heap.size W2 wr)) (fun i _ => 2 - (intOf i).toNat)
          case atStart => exact ⟨0, rfl, by omega, Below.refl _ _⟩
          case round =>
            obtain ⟨q, rfl, hq, HX⟩ := hrel
            by_cases hq2 : q < 2
            · obtain ⟨T, hT40, dT⟩ := HTX.out q hq2
              rw [← HX.out.cell (p := ⟨g0, q, none⟩) hg0] at dT
              have C1 := Lib.hid (fun W : World => rcstarts_any T W (by omega))
              have C2 := Lib.hid (fun W : World => csplit_any T W (by omega))
              have C3 := Lib.hid (fun W : World => cstarts_any T W (by omega))
              have C4 := Lib.hid (fun W : World => clen_any T W (by omega))
              have C5 := Lib.hid (fun W : World => cfirst_any T W (by omega))
              have C6 := Lib.hid (fun W : World => clast_any T W (by omega))
              have C7 := Lib.hid (fun W : World => cone_any T W (by omega))
              have C8 := Lib.hid (fun W : World => rsplit_any T W (by omega))
              have hlen := cstarts_len T
              have hcl := clen_le T
              have htwo := cstarts_two T
              have hpl := pieces_len T
              have hpk : pieces T = piecesK T (cstarts T) (clen T) := rfl
              have hz := cstarts_zero T
              have hla := cstarts_last T
              have hfi : firstI T = if clen T = 0 then 0 else (cstarts T).getD 1 0 := rfl
              have hli : lastI T = if clen T = 0 then 0 else (cstarts T).getD (clen T) 0 - (cstarts T).getD (clen T - 1) 0 := rfl
              obtain ⟨n, hn⟩ : ∃ n, clen T = n := ⟨_, rfl⟩
              obtain ⟨at', hat⟩ : ∃ at', cstarts T = at' := ⟨_, rfl⟩
              obtain ⟨ps, hps⟩ : ∃ ps, pieces T = ps := ⟨_, rfl⟩
              obtain ⟨fi, hfi'⟩ : ∃ fi, firstI T = fi := ⟨_, rfl⟩
              obtain ⟨la, hla'⟩ : ∃ la, lastI T = la := ⟨_, rfl⟩
              rw [hn] at C2 C4 C7 C8 hlen hcl htwo hpl hpk hla hfi hli
              rw [hat] at C1 C3 hlen htwo hpk hz hla hfi hli
              rw [hps] at C2 C8 hpl hpk
              rw [hfi'] at C5 hfi
              rw [hla'] at C6 hli
              have HLEN := Lib.hid hlen
              have HT := Lib.hid htwo
              have HPL := Lib.hid hpl
              have HPK := Lib.hid hpk
              have HZ := Lib.hid hz
              have HLA := Lib.hid hla
              have HFI := Lib.hid hfi
              have HLI := Lib.hid hli
              clear hn hat hps hfi' hla' hlen htwo hpl hpk hz hla hfi hli
              go_wp2_with fail
              refine (C1.out wr).mono ?_
              rintro e x1 ⟨v1, rfl, o1, b1⟩
              have O1 := Lib.hid o1
              have B1 := aside b1
              have dT1 := dT
              rw [← b1.cell (p := ⟨g0, q, none⟩) (World.block_lt_of_cell? _ _ dT)] at dT1
              clear o1 b1
              have hform : ∃ g c, v1 = .slice (some ⟨g, 0, none⟩) (n + 1) c := by
                have h := O1.out
                rcases h.2 with ⟨h1, h0⟩ | ⟨g, cap, cur, h1, _⟩
                · rw [HLEN.out] at h0; omega
                · rw [HLEN.out] at h1
                  exact ⟨g, cap, h1⟩
              obtain ⟨g1, c1, rfl⟩ := hform
              have I1 := Lib.hid (IsInts.of_own O1.out)
              have D1 : Hid (∀ j, j < n + 1 → x1.cell? ⟨g1, j, none⟩ = some (.int .i64 (at'.getD j 0))) := by
                intro j hj
                have h := O1.out
                rw [HLEN.out] at h
                rw [h.cellAt j (by omega), ints_get at' j (by rw [HLEN.out]; omega)]
              clear dT O1
              go_wp2_with fail
              refine (C2.out x1).mono ?_
              rintro e x2 ⟨v2, rfl, o2, b2⟩
              have J1 := Lib.hid (I1.out.below b2 (Nat.le_refl _))
              have D2 : Hid (∀ j, j < n + 1 → x2.cell? ⟨g1, j, none⟩ = some (.int .i64 (at'.getD j 0))) := by
                intro j hj
                have h := D1.out j hj
                rw [b2.cell (p := ⟨g1, j, none⟩) (World.block_lt_of_cell? _ _ h)]
                exact h
              have dT2 := dT1
              rw [← b2.cell (p := ⟨g0, q, none⟩) (World.block_lt_of_cell? _ _ dT1)] at dT2
              rw [← HPL.out] at o2
              have S2 := Lib.hid (IsStrs.of_own o2)
              have B2 := aside (B1.out.trans (b2.mono B1.out.size))
              have hf2 := S2.out
              obtain ⟨A2, c2, rfl, hc2, hc22, hA2⟩ := strs_cases S2.out
              clear o2 b2 D1 I1 dT1 hf2
              by_cases h0 : n = 0
              · subst h0
                have HFI2 : Hid (fi = 0) := by show _ = _; rw [HFI.out, if_pos rfl]
                have HLI2 : Hid (la = 0) := by show _ = _; rw [HLI.out, if_pos rfl]
                have B3 := B2
                have S3 := S2
                have J3 := J1
                have dT3 := dT2
                obtain ⟨x3, hx3⟩ : ∃ x3, x3 = x2 := ⟨_, rfl⟩
                rw [← hx3] at B3 S3 J3 dT3 ⊢
                clear hx3 B2 S2 J1 dT2
                rw [HFI2.out] at C5
                rw [HLI2.out] at C6
                go_wp2_with fail
                refine (C3.out x3).mono ?_
                rintro e x4 ⟨v4, rfl, o4, b4⟩
                have I4 := Lib.hid (IsInts.of_own o4)
                have J4 := Lib.hid (J3.out.below b4 (Nat.le_refl _))
                have S4 := Lib.hid (S3.out.below b4 (Nat.le_refl _))
                have B4 := aside (B3.out.trans (b4.mono B3.out.size))
                rw [← b4.cell (p := ⟨g0, q, none⟩) (World.block_lt_of_cell? _ _ dT3)] at dT3
                clear o4 b4
                go_wp2_with fail
                refine (same_any _ _ _ _ _ I4.out J4.out (by rw [HLEN.out]; omega) (by rw [HLEN.out]; omega)).mono ?_
                rintro e x5 ⟨rfl, n5, rfl⟩
                rw [decide_eq_true rfl]
                have dT_y0 : (x4.drewN n5).cell? ⟨g0, q, none⟩ = some (.string T) := dT3
                have S_y0 := Lib.hid (show IsStrs (x4.drewN n5) _ _ from S4.out)
                have B_y0 := aside (below_drewN B4.out n5)
                generalize x4.drewN n5 = y0 at dT_y0 S_y0 B_y0 ⊢
                clear dT3 I4 J4 S4
                go_wp2_with fail
                refine (C4.out y0).mono ?_
                rintro e y1 ⟨rfl, b_y1⟩
                have S_y1 := Lib.hid (S_y0.out.below b_y1 (Nat.le_refl _))
                have dT_y1 := dT_y0
                rw [← b_y1.cell (p := ⟨g0, q, none⟩) (World.block_lt_of_cell? _ _ dT_y0)] at dT_y1
                have B_y1 := aside (B_y0.out.trans (b_y1.mono B_y0.out.size))
                clear b_y1 S_y0 dT_y0 B_y0
                go_wp2_with fail
                refine (C5.out y1).mono ?_
                rintro e y2 ⟨rfl, b_y2⟩
                have S_y2 := Lib.hid (S_y1.out.below b_y2 (Nat.le_refl _))
                have dT_y2 := dT_y1
                rw [← b_y2.cell (p := ⟨g0, q, none⟩) (World.block_lt_of_cell? _ _ dT_y1)] at dT_y2
                have B_y2 := aside (B_y1.out.trans (b_y2.mono B_y1.out.size))
                clear b_y2 S_y1 dT_y1 B_y1
                go_wp2_with fail
                refine (C6.out y2).mono ?_
                rintro e y3 ⟨rfl, b_y3⟩
                have S_y3 := Lib.hid (S_y2.out.below b_y3 (Nat.le_refl _))
                have dT_y3 := dT_y2
                rw [← b_y3.cell (p := ⟨g0, q, none⟩) (World.block_lt_of_cell? _ _ dT_y2)] at dT_y3
                have B_y3 := aside (B_y2.out.trans (b_y3.mono B_y2.out.size))
                clear b_y3 S_y2 dT_y2 B_y2
                go_wp2_with fail
                refine (C7.out y3).mono ?_
                rintro e y4 ⟨rfl, b_y4⟩
                have S_y4 := Lib.hid (S_y3.out.below b_y4 (Nat.le_refl _))
                have dT_y4 := dT_y3
                rw [← b_y4.cell (p := ⟨g0, q, none⟩) (World.block_lt_of_cell? _ _ dT_y3)] at dT_y4
                have B_y4 := aside (B_y3.out.trans (b_y4.mono B_y3.out.size))
                clear b_y4 S_y3 dT_y3 B_y3
                go_wp2_with fail
                refine (C8.out y4).mono ?_
                rintro e y5 ⟨v8, rfl, o8, b8⟩
                rw [← HPL.out] at o8
                have R5 := Lib.hid (IsStrs.of_own o8)
                have S_y5 := Lib.hid (S_y4.out.below b8 (Nat.le_refl _))
                have dT_y5 := dT_y4
                rw [← b8.cell (p := ⟨g0, q, none⟩) (World.block_lt_of_cell? _ _ dT_y4)] at dT_y5
                have B_y5 := aside (B_y4.out.trans (b8.mono B_y4.out.size))
                clear o8 b8 S_y4 dT_y4 B_y4
                go_wp2_with fail
                refine (texts_any _ _ _ _ _ S_y5.out R5.out (by rw [HPL.out]; omega) (by rw [HPL.out]; omega)).mono ?_
                rintro e y6 ⟨rfl, n6, rfl⟩
                rw [decide_eq_true rfl]
                have dT_y6 : (y5.drewN n6).cell? ⟨g0, q, none⟩ = some (.string T) := dT_y5
                have S_y6 := Lib.hid (show IsStrs (y5.drewN n6) _ _ from S_y5.out)
                have B_y6 := aside (below_drewN B_y5.out n6)
                generalize y5.drewN n6 = y6 at dT_y6 S_y6 B_y6 ⊢
                clear dT_y5 R5 S_y5 B_y5
                go_wp2_with fail
                have hpl := HPL.out
                have hq6 := S_y6.out
                obtain ⟨A6, c6, he6, hc61, hc62, hA6⟩ := strs_cases hq6
                injection he6 with he1 he2 he3
                subst he1
                subst he3
                clear he2 hq6
                go_loop [14, 15] (fun wh kk => ∃ j : Nat, kk = .int .i64 j ∧ j ≤ 0 ∧ wh = .string (T.extract 0 (at'.getD j 0).toNat)) (fun _ kk => 0 - (intOf kk).toNat)
                case atStart => exact ⟨0, rfl, by omega, by rw [HZ.out]; exact congrArg Value.string (extract_none T).symm⟩
                case round =>
                  obtain ⟨j, rfl, hj, rfl⟩ := hrel
                  by_cases hjn : j < 0
                  · first
                      | (exfalso; omega)
                      | (have hjl : j < ps.length := by omega
                         rcases hA6 with ⟨b6, off6, rfl, HC6⟩ | ⟨_, hn6⟩
                         all_goals try (exfalso; omega)
                         have d6 := HC6.out j hjl
                         have hg := piecesK_get T at' 0 j hjn
                         rw [← HPK.out] at hg
                         rw [hg] at d6
                         have htw := HT.out j hjn
                         have hex := extract_next T (at'.getD j 0).toNat (at'.getD (j + 1) 0).toNat (by omega) (by omega)
                         have hsz1 : (T.extract 0 (at'.getD j 0).toNat).size ≤ 40 := by rw [ByteArray.size_extract]; omega
                         have hsz2 : (T.extract (at'.getD j 0).toNat (at'.getD (j + 1) 0).toNat).size ≤ 40 := by rw [ByteArray.size_extract]; omega
                         obtain ⟨X, hX⟩ : ∃ X, T.extract 0 (at'.getD j 0).toNat = X := ⟨_, rfl⟩
                         obtain ⟨Y, hY⟩ : ∃ Y, T.extract (at'.getD j 0).toNat (at'.getD (j + 1) 0).toNat = Y := ⟨_, rfl⟩
                         rw [hX] at hex hsz1 ⊢
                         rw [hY] at hex hsz2 d6
                         have HEX := Lib.hid hex
                         have hji : (j : Int) < (ps.length : Int) := by omega
                         clear hX hY hex hg htw
                         go_wp2_with fail
                         go_round
                         case rel => exact ⟨j + 1, by go_num, by omega, by rw [← HEX.out]⟩
                         case measure => simp [intOf]; omega)
                  · obtain rfl : j = 0 := by omega
                    have HE : Hid (T.extract 0 (at'.getD (0) 0).toNat = T) := by
                      show _ = _
                      rw [HLA.out, Int.toNat_natCast, extract_all]
                    rw [HE.out]
                    have hji : ¬ (((0 : Nat) : Int) < (ps.length : Int)) := by omega
                    have X6 := aside (HX.out.trans (B_y6.out.mono HX.out.size))
                    go_wp2_with fail
                    go_roundw
                    case rel => exact ⟨q + 1, by go_num, by omega, X6⟩
                    case measure => simp [intOf]; omega
              · obtain ⟨m, rfl⟩ : ∃ m, n = m + 1 := ⟨n - 1, by omega⟩
                have d0 := D2.out m (by omega)
                have d1 := D2.out (m + 1) (by omega)
                have de := D2.out 1 (by omega)
                have htw := HT.out m (by omega)
                have HFI2 : Hid (fi = at'.getD 1 0) := by show _ = _; rw [HFI.out, if_neg h0]
                have HLI2 : Hid (la = at'.getD (m + 1) 0 - at'.getD m 0) := by show _ = _; rw [HLI.out, if_neg h0]; rfl
                rw [← HFI2.out] at de
                obtain ⟨a, ha⟩ : ∃ a, at'.getD m 0 = a := ⟨_, rfl⟩
                obtain ⟨b', hb'⟩ : ∃ b', at'.getD (m + 1) 0 = b' := ⟨_, rfl⟩
                rw [ha] at d0 htw HLI2
                rw [hb'] at d1 htw HLI2
                obtain ⟨ha0, hab, hbs⟩ := htw
                clear ha hb'
                have hd : (0 : Int) < (m : Int) + 1 := by omega
                have hw1 : IntKind.i64.wrap ((m : Int) + 1 + 1 - 1) = (m : Int) + 1 := by rw [show (m : Int) + 1 + 1 - 1 = m + 1 by omega]; exact wrap_in _ (by omega) (by omega)
                have hw2 : IntKind.i64.wrap ((m : Int) + 1 - 1) = (m : Int) := by rw [show (m : Int) + 1 - 1 = m by omega]; exact wrap_in _ (by omega) (by omega)
                have hw3 : IntKind.i64.wrap ((m : Int) + 1) = (m : Int) + 1 := wrap_in _ (by omega) (by omega)
                have hw5 : IntKind.i64.wrap (m : Int) = (m : Int) := wrap_in _ (by omega) (by omega)
                have hw4 : IntKind.i64.wrap (b' - a) = b' - a := wrap_in _ (by omega) (by omega)
                have hi0 : (0 : Int) ≤ (m : Int) := by omega
                have hi1 : (m : Int) < (m : Int) + 1 + 1 := by omega
                have hi2 : (0 : Int) ≤ (m : Int) + 1 := by omega
                have hi3 : (m : Int) + 1 < (m : Int) + 1 + 1 := by omega
                have hi4 : (1 : Int) < (m : Int) + 1 + 1 := by omega
                rw [HLI2.out] at C6
                obtain ⟨ob, hob⟩ : ∃ ob, (m + 1 == 1) = ob := ⟨_, rfl⟩
                have hob2 : ((m : Int) + 1 == 1) = ob := by
                  rw [← hob]
                  by_cases hm : m = 0
                  · subst hm; rfl
                  · have e1 : ((m : Int) + 1 == 1) = false := by simp; omega
                    have e2 : (m + 1 == 1) = false := by simp; omega
                    rw [e1, e2]
                rw [hob] at C7
                go_wp2_with fail
                go_quiet (fail)
                have B3 := aside (below_drewN B2.out nq)
                have S3 := Lib.hid (show IsStrs (x2.drewN nq) _ _ from S2.out)
                have J3 := Lib.hid (show IsInts (x2.drewN nq) _ _ from J1.out)
                have dT3 : (x2.drewN nq).cell? ⟨g0, q, none⟩ = some (.string T) := dT2
                generalize x2.drewN nq = x3 at B3 S3 J3 dT3 ⊢
                clear B2 S2 J1 dT2 D2 d0 d1 de
                go_wp2_with fail
                refine (C3.out x3).mono ?_
                rintro e x4 ⟨v4, rfl, o4, b4⟩
                have I4 := Lib.hid (IsInts.of_own o4)
                have J4 := Lib.hid (J3.out.below b4 (Nat.le_refl _))
                have S4 := Lib.hid (S3.out.below b4 (Nat.le_refl _))
                have B4 := aside (B3.out.trans (b4.mono B3.out.size))
                rw [← b4.cell (p := ⟨g0, q, none⟩) (World.block_lt_of_cell? _ _ dT3)] at dT3
                clear o4 b4
                go_wp2_with fail
                refine (same_any _ _ _ _ _ I4.out J4.out (by rw [HLEN.out]; omega) (by rw [HLEN.out]; omega)).mono ?_
                rintro e x5 ⟨rfl, n5, rfl⟩
                rw [decide_eq_true rfl]
                have dT_y0 : (x4.drewN n5).cell? ⟨g0, q, none⟩ = some (.string T) := dT3
                have S_y0 := Lib.hid (show IsStrs (x4.drewN n5) _ _ from S4.out)
                have B_y0 := aside (below_drewN B4.out n5)
                generalize x4.drewN n5 = y0 at dT_y0 S_y0 B_y0 ⊢
                clear dT3 I4 J4 S4
                go_wp2_with fail
                refine (C4.out y0).mono ?_
                rintro e y1 ⟨rfl, b_y1⟩
                have S_y1 := Lib.hid (S_y0.out.below b_y1 (Nat.le_refl _))
                have dT_y1 := dT_y0
                rw [← b_y1.cell (p := ⟨g0, q, none⟩) (World.block_lt_of_cell? _ _ dT_y0)] at dT_y1
                have B_y1 := aside (B_y0.out.trans (b_y1.mono B_y0.out.size))
                clear b_y1 S_y0 dT_y0 B_y0
                go_wp2_with fail
                refine (C5.out y1).mono ?_
                rintro e y2 ⟨rfl, b_y2⟩
                have S_y2 := Lib.hid (S_y1.out.below b_y2 (Nat.le_refl _))
                have dT_y2 := dT_y1
                rw [← b_y2.cell (p := ⟨g0, q, none⟩) (World.block_lt_of_cell? _ _ dT_y1)] at dT_y2
                have B_y2 := aside (B_y1.out.trans (b_y2.mono B_y1.out.size))
                clear b_y2 S_y1 dT_y1 B_y1
                go_wp2_with fail
                refine (C6.out y2).mono ?_
                rintro e y3 ⟨rfl, b_y3⟩
                have S_y3 := Lib.hid (S_y2.out.below b_y3 (Nat.le_refl _))
                have dT_y3 := dT_y2
                rw [← b_y3.cell (p := ⟨g0, q, none⟩) (World.block_lt_of_cell? _ _ dT_y2)] at dT_y3
                have B_y3 := aside (B_y2.out.trans (b_y3.mono B_y2.out.size))
                clear b_y3 S_y2 dT_y2 B_y2
                go_wp2_with fail
                refine (C7.out y3).mono ?_
                rintro e y4 ⟨rfl, b_y4⟩
                have S_y4 := Lib.hid (S_y3.out.below b_y4 (Nat.le_refl _))
                have dT_y4 := dT_y3
                rw [← b_y4.cell (p := ⟨g0, q, none⟩) (World.block_lt_of_cell? _ _ dT_y3)] at dT_y4
                have B_y4 := aside (B_y3.out.trans (b_y4.mono B_y3.out.size))
                clear b_y4 S_y3 dT_y3 B_y3
                go_wp2_with fail
                refine (C8.out y4).mono ?_
                rintro e y5 ⟨v8, rfl, o8, b8⟩
                rw [← HPL.out] at o8
                have R5 := Lib.hid (IsStrs.of_own o8)
                have S_y5 := Lib.hid (S_y4.out.below b8 (Nat.le_refl _))
                have dT_y5 := dT_y4
                rw [← b8.cell (p := ⟨g0, q, none⟩) (World.block_lt_of_cell? _ _ dT_y4)] at dT_y5
                have B_y5 := aside (B_y4.out.trans (b8.mono B_y4.out.size))
                clear o8 b8 S_y4 dT_y4 B_y4
                go_wp2_with fail
                refine (texts_any _ _ _ _ _ S_y5.out R5.out (by rw [HPL.out]; omega) (by rw [HPL.out]; omega)).mono ?_
                rintro e y6 ⟨rfl, n6, rfl⟩
                rw [decide_eq_true rfl]
                have dT_y6 : (y5.drewN n6).cell? ⟨g0, q, none⟩ = some (.string T) := dT_y5
                have S_y6 := Lib.hid (show IsStrs (y5.drewN n6) _ _ from S_y5.out)
                have B_y6 := aside (below_drewN B_y5.out n6)
                generalize y5.drewN n6 = y6 at dT_y6 S_y6 B_y6 ⊢
                clear dT_y5 R5 S_y5 B_y5
                go_wp2_with fail
                have hpl := HPL.out
                have hq6 := S_y6.out
                obtain ⟨A6, c6, he6, hc61, hc62, hA6⟩ := strs_cases hq6
                injection he6 with he1 he2 he3
                subst he1
                subst he3
                clear he2 hq6
                go_loop [14, 15] (fun wh kk => ∃ j : Nat, kk = .int .i64 j ∧ j ≤ m + 1 ∧ wh = .string (T.extract 0 (at'.getD j 0).toNat)) (fun _ kk => m + 1 - (intOf kk).toNat)
                case atStart => exact ⟨0, rfl, by omega, by rw [HZ.out]; exact congrArg Value.string (extract_none T).symm⟩
                case round =>
                  obtain ⟨j, rfl, hj, rfl⟩ := hrel
                  by_cases hjn : j < m + 1
                  · first
                      | (exfalso; omega)
                      | (have hjl : j < ps.length := by omega
                         rcases hA6 with ⟨b6, off6, rfl, HC6⟩ | ⟨_, hn6⟩
                         all_goals try (exfalso; omega)
                         have d6 := HC6.out j hjl
                         have hg := piecesK_get T at' (m + 1) j hjn
                         rw [← HPK.out] at hg
                         rw [hg] at d6
                         have htw := HT.out j hjn
                         have hex := extract_next T (at'.getD j 0).toNat (at'.getD (j + 1) 0).toNat (by omega) (by omega)
                         have hsz1 : (T.extract 0 (at'.getD j 0).toNat).size ≤ 40 := by rw [ByteArray.size_extract]; omega
                         have hsz2 : (T.extract (at'.getD j 0).toNat (at'.getD (j + 1) 0).toNat).size ≤ 40 := by rw [ByteArray.size_extract]; omega
                         obtain ⟨X, hX⟩ : ∃ X, T.extract 0 (at'.getD j 0).toNat = X := ⟨_, rfl⟩
                         obtain ⟨Y, hY⟩ : ∃ Y, T.extract (at'.getD j 0).toNat (at'.getD (j + 1) 0).toNat = Y := ⟨_, rfl⟩
                         rw [hX] at hex hsz1 ⊢
                         rw [hY] at hex hsz2 d6
                         have HEX := Lib.hid hex
                         have hji : (j : Int) < (ps.length : Int) := by omega
                         clear hX hY hex hg htw
                         go_wp2_with fail
                         go_round
                         case rel => exact ⟨j + 1, by go_num, by omega, by rw [← HEX.out]⟩
                         case measure => simp [intOf]; omega)
                  · obtain rfl : j = m + 1 := by omega
                    have HE : Hid (T.extract 0 (at'.getD (m + 1) 0).toNat = T) := by
                      show _ = _
                      rw [HLA.out, Int.toNat_natCast, extract_all]
                    rw [HE.out]
                    have hji : ¬ (((m + 1 : Nat) : Int) < (ps.length : Int)) := by omega
                    have X6 := aside (HX.out.trans (B_y6.out.mono HX.out.size))
                    go_wp2_with fail
                    go_roundw
                    case rel => exact ⟨q + 1, by go_num, by omega, X6⟩
                    case measure => simp [intOf]; omega
            · obtain rfl : q = 2 := by omega
              go_wp2_with fail
              refine (lives3 _).mono ?_
              rintro e w8 ⟨rfl, b8⟩
              go_wp2
              go_ret
              exact ⟨rfl, (HB2.out.trans (HX.out.mono HB2.out.size)).trans (b8.mono (HB2.out.trans (HX.out.mono HB2.out.size)).size)⟩

end Go.Proofs.Ytaocnnebfnlgiaa
