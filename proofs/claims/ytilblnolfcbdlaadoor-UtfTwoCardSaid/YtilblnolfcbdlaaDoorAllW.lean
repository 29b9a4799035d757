/-
  The walk of UtfAll.
-/
import Derived.Test.YtilblnolfcbdlaaDoorUtf3
import Derived.Test.YtilblnolfcbdlaaDoorUtf4
import Derived.Test.YtilblnolfcbdlaaDoorFew
import Derived.Test.YtilblnolfcbdlaaDoorLives1
namespace Go.Proofs.YtilblnolfcbdlaaDoor
open Go.RowKit

theorem same_yes (a : List Int) (va vb : Value) (w : World) (ha : IsInts w va a) (hb : IsInts w vb a) (hl : a.length ≤ 9223372036854775807) :
    Calls Tryd.prog 10 #[va, vb] w fun e w' => e = .returned (.bool true) ∧ ∃ n, w' = w.drewN n := by
  refine (same_any a a va vb w ha hb hl hl).mono ?_
  rintro e w' ⟨rfl, n, rfl⟩
  exact ⟨by simp, n, rfl⟩

theorem starts_len_le (s : ByteArray) : (starts s).length ≤ s.size + 1 := by
  unfold starts
  rw [List.length_append, ← chars_len]
  have := chars_len_le s
  simp
  omega

set_option maxRecDepth 100000 in
set_option maxHeartbeats 4000000 in
theorem utfAll_walk (s0 : ByteArray) (w : World) (hs0 : s0.size ≤ 9223372036854775807) (hT : Lib.Utf8Tabs 0 1 w) :
    Calls Tryd.prog 3 #[.string s0] w fun e w' => e = .returned (.bool true) ∧ Below w.heap.size w w' := by
  have hle := fewS_le s0 60
  have HF := Lib.hid (fun W : World => few_any s0 60 W hs0 (by omega))
  obtain ⟨s, hs⟩ : ∃ s, fewS s0 60 = s := ⟨_, rfl⟩
  rw [hs] at hle HF
  clear hs
  have CA := Lib.hid (fun (W : World) => rall_any s W (by omega))
  have CU := Lib.hid (fun (W : World) => uall_any s W (by omega))
  have CS := Lib.hid (fun (W : World) => ustarts_any s W (by omega))
  have CL := Lib.hid (fun (W : World) => ulen_any s W (by omega))
  have CV := Lib.hid (fun (W : World) (h : Lib.Utf8Tabs 0 1 W) => uvalid_any s W (by omega) h)
  have hcl := chars_len_le s
  have hsl := starts_len_le s
  obtain ⟨cs, hcs⟩ : ∃ cs, chars s = cs := ⟨_, rfl⟩
  obtain ⟨ss, hss⟩ : ∃ ss, starts s = ss := ⟨_, rfl⟩
  obtain ⟨vb, hvb⟩ : ∃ vb, validB s = vb := ⟨_, rfl⟩
  rw [hcs] at CA CU CL hcl
  rw [hss] at CA CS hsl
  rw [hvb] at CA CV
  have HTT := Lib.hid hT
  clear hT hcs hss hvb
  cases vb
  all_goals
    go_enter Tryd.func3, Tryd.ntmps3
    go_wp2_with fail
    refine (HF.out w).mono ?_
    rintro e w' ⟨rfl, rfl⟩
    go_wp2_with fail
    refine (CA.out w).mono ?_
    rintro e w1 ⟨v1, v2, rfl, o1, o2, _, b1⟩
    have I1 := Lib.hid (IsInts.of_own o1)
    have I2 := Lib.hid (IsInts.of_own o2)
    have hf1 := I1.out
    have hf2 := I2.out
    obtain ⟨A1, c1, rfl, _⟩ := hf1
    obtain ⟨A2, c2, rfl, _⟩ := hf2
    have B1 := aside b1
    clear b1 o1 o2
    go_wp2_with fail
    refine (CU.out w1).mono ?_
    rintro e w2 ⟨v3, rfl, o3, b2⟩
    have J1 := Lib.hid (I1.out.below b2 (Nat.le_refl _))
    have J2 := Lib.hid (I2.out.below b2 (Nat.le_refl _))
    have J3 := Lib.hid (IsInts.of_own o3)
    have B2 := aside (B1.out.trans (b2.mono B1.out.size))
    clear b2 o3
    go_wp2_with fail
    refine (same_yes cs _ _ w2 J3.out J1.out (by omega)).mono ?_
    rintro e w3 ⟨rfl, n3, rfl⟩
    go_wp2_with fail
    refine (CS.out _).mono ?_
    rintro e w4 ⟨v4, rfl, o4, b4⟩
    have K2 := Lib.hid ((J2.out.drewN n3).below b4 (Nat.le_refl _))
    have K4 := Lib.hid (IsInts.of_own o4)
    have B4 := aside ((below_drewN B2.out n3).trans (b4.mono (below_drewN B2.out n3).size))
    clear b4 o4
    go_wp2_with fail
    refine (same_yes ss _ _ w4 K4.out K2.out (by omega)).mono ?_
    rintro e w5 ⟨rfl, n5, rfl⟩
    go_wp2_with fail
    refine (CL.out _).mono ?_
    rintro e w6 ⟨rfl, b6⟩
    have B6 := aside ((below_drewN B4.out n5).trans (b6.mono (below_drewN B4.out n5).size))
    have T6 := Lib.hid (tabs_below HTT.out B6.out (tabs_size HTT.out))
    clear b6
    go_wp2_with fail
    refine (CV.out _ T6.out).mono ?_
    rintro e w7 ⟨rfl, b7⟩
    have B7 := aside (B6.out.trans (b7.mono B6.out.size))
    clear b7
    go_wp2_with fail
    refine (lives1 _).mono ?_
    rintro e w8 ⟨rfl, b8⟩
    go_wp2
    go_ret
    exact ⟨rfl, B7.out.trans (b8.mono B7.out.size)⟩

end Go.Proofs.YtilblnolfcbdlaaDoor
