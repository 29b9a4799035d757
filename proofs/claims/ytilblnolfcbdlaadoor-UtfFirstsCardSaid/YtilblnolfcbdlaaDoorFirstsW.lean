/-
  The walk of UtfFirsts.
-/
import Derived.Test.YtilblnolfcbdlaaDoorLastP
import Derived.Test.YtilblnolfcbdlaaDoorFew
import Derived.Test.YtilblnolfcbdlaaDoorLives1
namespace Go.Proofs.YtilblnolfcbdlaaDoor
open Go.RowKit

theorem own_cell {w : World} {B : Nat} {v : Value} {l : List Int} {L : Nat} (hL : l.length = L) (h : w.ownsRow B 3 1 v l.length (ints l)) (i : Nat) (x : Int) (hx : l[i]? = some x) : ∃ g cap, v = .slice (some ⟨g, 0, none⟩) L cap ∧ L ≤ cap ∧ cap ≤ 9223372036854775807 ∧ w.cell? ⟨g, i, none⟩ = some (.int .i64 x) := by
  subst hL
  have hi := (List.getElem?_eq_some_iff.1 hx).1
  rcases h.2 with ⟨_, h0⟩ | ⟨g, cap, cur, rfl, _, _, hnc, hcm, _⟩
  · omega
  · refine ⟨g, cap, rfl, hnc, hcm, ?_⟩
    rw [h.cellAt i (by omega)]
    simp [ints, hx]

set_option maxRecDepth 100000 in
set_option maxHeartbeats 4000000 in
theorem utfFirsts_walk (s0 : ByteArray) (w : World) (hs0 : s0.size ≤ 9223372036854775807) (hT : Lib.Utf8Tabs 0 1 w) :
    Calls Tryd.prog 6 #[.string s0] w fun e w' => e = .returned (.bool true) ∧ Below w.heap.size w w' := by
  have hle := fewS_le s0 30
  have HF := Lib.hid (fun W : World => few_any s0 30 W hs0 (by omega))
  obtain ⟨s, hs⟩ : ∃ s, fewS s0 30 = s := ⟨_, rfl⟩
  rw [hs] at hle HF
  clear hs
  have CU := Lib.hid (fun (W : World) (h : Lib.Utf8Tabs 0 1 W) => ufirst_any s W h)
  have CR := Lib.hid (fun (W : World) => rfirst_any s W (by omega))
  have CA := Lib.hid (fun (W : World) => rall_any s W (by omega))
  have CL := Lib.hid (fun (W : World) (h : Lib.Utf8Tabs 0 1 W) => ulast_any s W (by omega) h)
  have HTT := Lib.hid hT
  clear hT
  by_cases h0 : s.size = 0
  · have hc0 : chars s = [] := by unfold chars; exact charsFrom_end s _ _ (by omega)
    have hf0 : firstS s = (0, 0, false) := by simp [firstS, h0]
    have hl0 : lastS s = (0, 0, false) := by
      have : s.data.toList = [] := by apply List.eq_nil_of_length_eq_zero; simpa using h0
      unfold lastS; rw [this]; rfl
    rw [hf0] at CU CR
    rw [hl0] at CL
    rw [hc0] at CA
    simp only [tup3] at CU CR CL
    clear h0 hc0 hf0 hl0
    go_enter Tryd.func6, Tryd.ntmps6
    go_wp2_with fail
    refine (HF.out w).mono ?_
    rintro e w' ⟨rfl, rfl⟩
    go_wp2_with fail
    refine (CU.out w HTT.out).mono ?_
    rintro e w1 ⟨rfl, b1⟩
    have T1 := Lib.hid (tabs_below HTT.out b1 (tabs_size HTT.out))
    have B1 := aside b1
    clear b1
    go_wp2_with fail
    refine (CR.out w1).mono ?_
    rintro e w2 ⟨rfl, b2⟩
    have T2 := Lib.hid (tabs_below T1.out b2 (tabs_size T1.out))
    have B2 := aside (B1.out.trans (b2.mono B1.out.size))
    clear b2
    go_wp2_with fail
    refine (CA.out w2).mono ?_
    rintro e w3 ⟨v1, v2, rfl, o1, o2, _, b3⟩
    have T3 := Lib.hid (tabs_below T2.out b3 (tabs_size T2.out))
    have B3 := aside (B2.out.trans (b3.mono B2.out.size))
    have hv1 : ∃ A c, v1 = .slice A 0 c := by
      rcases o1.2 with ⟨h, _⟩ | ⟨g, cap, cur, h, _⟩
      · exact ⟨none, 0, h⟩
      · exact ⟨_, cap, h⟩
    obtain ⟨A1, c1, rfl⟩ := hv1
    clear b3 o1 o2
    go_wp2_with fail
    refine (CL.out w3 T3.out).mono ?_
    rintro e w4 ⟨rfl, b4⟩
    have B4 := aside (B3.out.trans (b4.mono B3.out.size))
    clear b4
    go_wp2_with fail
    refine (lives1 _).mono ?_
    rintro e w7 ⟨rfl, b7⟩
    go_wp2
    go_ret
    exact ⟨rfl, B4.out.trans (b7.mono B4.out.size)⟩
  · obtain ⟨p, c, n, g, hp, hpn, hfp, hls, hcl, hcc, hss, hcb⟩ := lastS_of s (by omega)
    have CP := Lib.hid (fun (W : World) => rfirst_any (s.extract p s.size) W (by simp [ByteArray.size_extract]; omega))
    rw [hfp] at CP
    rw [hls] at CL
    obtain ⟨⟨f1, f2, f3⟩, hf⟩ : ∃ f, firstS s = f := ⟨_, rfl⟩
    rw [hf] at CU CR
    simp only [tup3] at CU CR CL CP
    have hml := chars_len_le s
    have hsl : (starts s).length = (chars s).length + 1 := by
      unfold starts
      rw [List.length_append, ← chars_len]; rfl
    obtain ⟨L, hL⟩ : ∃ L, (chars s).length = L := ⟨_, rfl⟩
    rw [hL] at hcl hcc hss hml hsl
    have HCC := Lib.hid hcc
    have HSS := Lib.hid hss
    have HSL := Lib.hid hsl
    have HL := Lib.hid hL
    have hpn2 : ((n : Int) == (s.size : Int) - (p : Int)) = true := by simp; omega
    clear h0 hfp hls hf hcc hss hsl hL
    go_enter Tryd.func6, Tryd.ntmps6
    go_wp2_with fail
    refine (HF.out w).mono ?_
    rintro e w' ⟨rfl, rfl⟩
    go_wp2_with fail
    refine (CU.out w HTT.out).mono ?_
    rintro e w1 ⟨rfl, b1⟩
    have T1 := Lib.hid (tabs_below HTT.out b1 (tabs_size HTT.out))
    have B1 := aside b1
    clear b1
    go_wp2_with fail
    refine (CR.out w1).mono ?_
    rintro e w2 ⟨rfl, b2⟩
    have T2 := Lib.hid (tabs_below T1.out b2 (tabs_size T1.out))
    have B2 := aside (B1.out.trans (b2.mono B1.out.size))
    clear b2
    go_wp2_with fail
    refine (CA.out w2).mono ?_
    rintro e w3 ⟨v1, v2, rfl, o1, o2, _, b3⟩
    have T3 := Lib.hid (tabs_below T2.out b3 (tabs_size T2.out))
    have B3 := aside (B2.out.trans (b3.mono B2.out.size))
    obtain ⟨g1, c1, rfl, hc11, hc12, hcell1⟩ := own_cell HL.out o1 _ _ HCC.out
    obtain ⟨g2, c2, rfl, hc21, hc22, hcell2⟩ := own_cell HSL.out o2 _ _ HSS.out
    have hg1 := World.block_lt_of_cell? _ _ hcell1
    have hg2 := World.block_lt_of_cell? _ _ hcell2
    have HC1 := Lib.hid hcell1
    have HC2 := Lib.hid hcell2
    clear b3 o1 o2 hcell1 hcell2
    go_wp2_with fail
    refine (CL.out w3 T3.out).mono ?_
    rintro e w4 ⟨rfl, b4⟩
    have B4 := aside (B3.out.trans (b4.mono B3.out.size))
    have d2 : w4.cell? ⟨g2, L - 1, none⟩ = some (.int .i64 (p : Int)) := by rw [b4.cell (p := ⟨g2, L - 1, none⟩) hg2]; exact HC2.out
    have HC4 := Lib.hid (show w4.cell? ⟨g1, L - 1, none⟩ = some (.int .i64 (c : Int)) by rw [b4.cell (p := ⟨g1, L - 1, none⟩) hg1]; exact HC1.out)
    clear b4
    go_wp2_with fail
    refine (CP.out w4).mono ?_
    rintro e w5 ⟨rfl, b5⟩
    have B5 := aside (B4.out.trans (b5.mono B4.out.size))
    have d1 : w5.cell? ⟨g1, L - 1, none⟩ = some (.int .i64 (c : Int)) := by rw [b5.cell (p := ⟨g1, L - 1, none⟩) (World.block_lt_of_cell? _ _ HC4.out)]; exact HC4.out
    clear b5 d2
    go_wp2_with fail
    refine (lives1 _).mono ?_
    rintro e w7 ⟨rfl, b7⟩
    go_wp2
    go_ret
    exact ⟨rfl, B5.out.trans (b7.mono B5.out.size)⟩

end Go.Proofs.YtilblnolfcbdlaaDoor
