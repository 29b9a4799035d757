/-
  The walk of UtfEncodes.
-/
import Derived.Test.YtilblnolfcbdlaaDoorEncP
import Derived.Test.YtilblnolfcbdlaaDoorLives1
namespace Go.Proofs.YtilblnolfcbdlaaDoor
open Go.RowKit

theorem uenc_ref (c : Int) (w : World) (h0 : -9223372036854775808 ≤ c) (h1 : c ≤ 9223372036854775807) :
    Calls Tryd.prog 19 #[.int .i64 c] w fun e w' => e = .returned (.string ⟨(refEnc c).toArray⟩) ∧ Below w.heap.size w w' := by
  have h := uenc_any c w h0 h1
  rw [encS_ref] at h
  exact h

theorem goodI_bd' (n : Int) : 0 ≤ goodI n ∧ goodI n ≤ 1114111 := by
  have := (mayB_iff _).1 (good_may n)
  omega

set_option maxHeartbeats 2000000 in
theorem utfEncodes_walk (n : Int) (w : World) (h0 : -9223372036854775808 ≤ n) (h1 : n ≤ 9223372036854775807) (hT : Lib.Utf8Tabs 0 1 w) :
    Calls Tryd.prog 5 #[.int .i64 n] w fun e w' => e = .returned (.bool true) ∧ Below w.heap.size w w' := by
  have hg := goodI_bd' n
  have hm := good_may n
  have hG := fun W : World => good_any n W h0 h1
  obtain ⟨c, hc⟩ : ∃ c, goodI n = c := ⟨_, rfl⟩
  rw [hc] at hg hm hG
  obtain ⟨hg0, hg1⟩ := hg
  have hf := first_enc c hm
  have hl := last_encS c hm
  have CC := fun W : World => uenc_ref c W (by omega) (by omega)
  have CR := fun W : World => renc_any c W
  have CN := fun W : World => uenc_ref n W h0 h1
  have CS := fun W : World => renc_any n W
  have CM := fun W : World => umay_any n W
  have CP := fun W : World => may_any n W
  have CQ := fun W : World => umay_any c W
  rw [hm] at CQ
  obtain ⟨y, hy⟩ : ∃ y, refEnc c = y := ⟨_, rfl⟩
  obtain ⟨z, hz⟩ : ∃ z, refEnc n = z := ⟨_, rfl⟩
  rw [hy] at hf hl CC CR
  rw [hz] at CN CS
  have CF := fun (W : World) (h : Lib.Utf8Tabs 0 1 W) => ufirst_any ⟨y.toArray⟩ W h
  have hys : (⟨y.toArray⟩ : ByteArray).size ≤ 9223372036854775807 := by
    show y.toArray.size ≤ _
    have := enc_len c
    rw [refEnc_may c hm] at hy
    rw [← hy]
    simp
    omega
  have CL := fun (W : World) (h : Lib.Utf8Tabs 0 1 W) => ulast_any ⟨y.toArray⟩ W hys h
  rw [hf] at CF
  rw [hl] at CL
  simp only [tup3] at CF CL
  have HCF := Lib.hid CF
  have HCL := Lib.hid CL
  have HG := Lib.hid hG
  have HCC := Lib.hid CC
  have HTT := Lib.hid hT
  obtain ⟨mn, hmn⟩ : ∃ b, mayB n = b := ⟨_, rfl⟩
  rw [hmn] at CM CP
  clear hm hc hf hl hy hz hys CF CL hG CC hT hmn
  cases mn
  all_goals
    go_enter Tryd.func5, Tryd.ntmps5
    go_wp2_with fail
    refine (HG.out w).mono ?_
    rintro e w' ⟨rfl, rfl⟩
    go_wp2_with fail
    refine (HCC.out w).mono ?_
    rintro e w1 ⟨rfl, b1⟩
    have T1 := Lib.hid (tabs_below HTT.out b1 (tabs_size HTT.out))
    have B1 := aside b1
    clear b1
    go_wp2_with fail
    refine (HCF.out w1 T1.out).mono ?_
    rintro e w2 ⟨rfl, b2⟩
    have T2 := Lib.hid (tabs_below T1.out b2 (tabs_size T1.out))
    have B2 := aside (B1.out.trans (b2.mono B1.out.size))
    clear b2
    go_wp2_with fail
    refine (HCL.out w2 T2.out).mono ?_
    rintro e w3 ⟨rfl, b3⟩
    have B3 := aside (B2.out.trans (b3.mono B2.out.size))
    clear b3
    go_wp2_with fail
    refine (CN _).mono ?_
    rintro e w4 ⟨rfl, b4⟩
    have B4 := aside (B3.out.trans (b4.mono B3.out.size))
    clear b4
    go_wp2_with fail
    refine (CS _).mono ?_
    rintro e w5 ⟨rfl, b5⟩
    have B5 := aside (B4.out.trans (b5.mono B4.out.size))
    clear b5
    go_wp2_with (first
      | (go_at_call 23; first | (with_reducible refine (CM _).mono ?_) | (with_reducible refine (CQ _).mono ?_)
         rintro e w6 ⟨rfl, rfl⟩)
      | (go_at_call 24; refine (CP _).mono ?_; rintro e w6 ⟨rfl, rfl⟩))
    refine (CR _).mono ?_
    rintro e w6 ⟨rfl, b6⟩
    have B6 := aside (B5.out.trans (b6.mono B5.out.size))
    clear b6
    go_wp2_with fail
    refine (lives1 _).mono ?_
    rintro e w7 ⟨rfl, b7⟩
    go_wp2
    go_ret
    exact ⟨rfl, B6.out.trans (b7.mono B6.out.size)⟩

end Go.Proofs.YtilblnolfcbdlaaDoor
