/-
  The walk of UtfCleans.
-/
import Derived.Test.YtilblnolfcbdlabDoorCharsL
import Derived.Test.YtilblnolfcbdlabDoorUtf4
import Derived.Test.YtilblnolfcbdlabDoorFew
import Derived.Test.YtilblnolfcbdlabDoorLives1
namespace Go.Proofs.YtilblnolfcbdlabDoor
open Go.RowKit

theorem chars_may (s : ByteArray) : ∀ c ∈ chars s, mayB c = true := by
  rw [chars_L]
  exact charsL_may _ _ (Nat.le_refl _)
theorem chars_back (s : ByteArray) : chars ⟨(joinL (chars s)).toArray⟩ = chars s := by
  rw [chars_L]
  simp only [List.toList_toArray]
  rw [charsL_join0, map_orSpoilt _ (chars_may s)]
theorem valid_back (l : List Int) : validB ⟨(joinL l).toArray⟩ = true := by
  rw [validB_D]
  simp only [List.toList_toArray]
  exact validD_join0 l
theorem clean_same (s : ByteArray) : (joinL (chars s) == s.toList) = validB s := by
  rw [ByteArray.toList_eq]
  cases hv : validB s with
  | true =>
    rw [validB_D] at hv
    have := join_chars _ s.data.toList (Nat.le_refl _) hv
    rw [chars_L, this]
    simp
  | false =>
    apply beq_eq_false_iff_ne.2
    intro e
    have h := validD_join0 (chars s)
    rw [e, ← validB_D, hv] at h
    cases h

set_option maxHeartbeats 400000 in
theorem uclean_any (s : ByteArray) (w : World) (hs : s.size ≤ 1000000) :
    Calls Tryd.prog 5 #[.string s] w fun e w' => e = .returned (.string ⟨(joinL (chars s)).toArray⟩) ∧ Below w.heap.size w w' := by
  have CA := Lib.hid (fun W : World => uall_any s W (by omega))
  have hcl := chars_len_le s
  obtain ⟨cs, hcs⟩ : ∃ cs, chars s = cs := ⟨_, rfl⟩
  rw [hcs] at CA hcl ⊢
  clear hcs
  go_enter Tryd.func5, Tryd.ntmps5
  go_wp2_with fail
  refine (CA.out w).mono ?_
  rintro e w1 ⟨v1, rfl, o1, b1⟩
  have I1 := Lib.hid (IsInts.of_own o1)
  have B1 := aside b1
  clear o1 b1
  go_wp2_with fail
  refine (ujoin_any cs v1 w1 I1.out (by omega)).mono ?_
  rintro e w2 ⟨rfl, b2⟩
  go_wp2
  go_ret
  exact ⟨rfl, B1.out.trans (b2.mono B1.out.size)⟩

set_option maxRecDepth 100000 in
set_option maxHeartbeats 4000000 in
theorem utfCleans_walk (s0 : ByteArray) (w : World) (hs0 : s0.size ≤ 9223372036854775807) (hT : Lib.Utf8Tabs 0 1 w) :
    Calls Tryd.prog 3 #[.string s0] w fun e w' => e = .returned (.bool true) ∧ Below w.heap.size w w' := by
  have hle := fewS_le s0 60
  have HF := Lib.hid (fun W : World => few_any s0 60 W hs0 (by omega))
  obtain ⟨s, hs⟩ : ∃ s, fewS s0 60 = s := ⟨_, rfl⟩
  rw [hs] at hle HF
  clear hs
  have CA := fun (W : World) => rall_any s W (by omega)
  have CC := fun (W : World) => uclean_any s W (by omega)
  have CL := fun (W : World) => ulen_any s W (by omega)
  have CV := fun (W : World) (h : Lib.Utf8Tabs 0 1 W) => uvalid_any s W (by omega) h
  have hcl := chars_len_le s
  have hback := chars_back s
  have hvb := valid_back (chars s)
  have hsame := clean_same s
  have hsz : (⟨(joinL (chars s)).toArray⟩ : ByteArray).size ≤ 1000 := by
    show (joinL (chars s)).toArray.size ≤ _
    rw [List.size_toArray]
    have := joinL_len (chars s)
    omega
  have CK := fun (W : World) => uclean_any ⟨(joinL (chars s)).toArray⟩ W (by omega)
  have CM := fun (W : World) => ulen_any ⟨(joinL (chars s)).toArray⟩ W (by omega)
  have CW := fun (W : World) (h : Lib.Utf8Tabs 0 1 W) => uvalid_any ⟨(joinL (chars s)).toArray⟩ W (by omega) h
  rw [hback] at CK CM
  rw [hvb] at CW
  obtain ⟨cs, hcs⟩ : ∃ cs, chars s = cs := ⟨_, rfl⟩
  rw [hcs] at CA CC CL CK CM CW hcl hsame
  have CR := fun (W : World) (v : Value) (h : IsInts W v cs) => rjoin_any cs v W h (by omega)
  obtain ⟨jc, hjc⟩ : ∃ jc, joinL cs = jc := ⟨_, rfl⟩
  rw [hjc] at CC CK CM CW CR hsame
  obtain ⟨vb, hv⟩ : ∃ vb, validB s = vb := ⟨_, rfl⟩
  rw [hv] at CA CV hsame
  have H1 := Lib.hid CA; have H2 := Lib.hid CC; have H3 := Lib.hid CL; have H4 := Lib.hid CV; have H5 := Lib.hid CK; have H6 := Lib.hid CM; have H7 := Lib.hid CW; have H8 := Lib.hid CR
  have HTT := Lib.hid hT
  clear hT hcs hjc hv CA CC CL CV CK CM CW CR hback hvb hsz
  cases vb
  all_goals
    go_enter Tryd.func3, Tryd.ntmps3
    go_wp2_with fail
    refine (HF.out w).mono ?_
    rintro e w' ⟨rfl, rfl⟩
    go_wp2_with fail
    refine (H2.out w).mono ?_
    rintro e w1 ⟨rfl, b1⟩
    have B1 := aside b1
    clear b1
    go_wp2_with fail
    refine (H1.out w1).mono ?_
    rintro e w2 ⟨v1, v2, rfl, o1, o2, _, b2⟩
    have I2 := Lib.hid (IsInts.of_own o1)
    have B2 := aside (B1.out.trans (b2.mono B1.out.size))
    clear b2 o1 o2
    go_wp2_with fail
    refine (H8.out w2 _ I2.out).mono ?_
    rintro e w3 ⟨rfl, b3⟩
    have B3 := aside (B2.out.trans (b3.mono B2.out.size))
    have T3 := Lib.hid (tabs_below HTT.out B3.out (tabs_size HTT.out))
    clear b3
    go_wp2_with fail
    refine (H7.out w3 T3.out).mono ?_
    rintro e w4 ⟨rfl, b4⟩
    have B4 := aside (B3.out.trans (b4.mono B3.out.size))
    clear b4
    go_wp2_with fail
    refine (H5.out w4).mono ?_
    rintro e w5 ⟨rfl, b5⟩
    have B5 := aside (B4.out.trans (b5.mono B4.out.size))
    clear b5
    go_wp2_with fail
    refine (H6.out w5).mono ?_
    rintro e w6 ⟨rfl, b6⟩
    have B6 := aside (B5.out.trans (b6.mono B5.out.size))
    clear b6
    go_wp2_with fail
    refine (H3.out w6).mono ?_
    rintro e w7 ⟨rfl, b7⟩
    have B7 := aside (B6.out.trans (b7.mono B6.out.size))
    have T7 := Lib.hid (tabs_below HTT.out B7.out (tabs_size HTT.out))
    clear b7
    go_wp2_with fail
    refine (H4.out w7 T7.out).mono ?_
    rintro e w8 ⟨rfl, b8⟩
    have B8 := aside (B7.out.trans (b8.mono B7.out.size))
    clear b8
    go_wp2_with fail
    refine (lives1 _).mono ?_
    rintro e w9 ⟨rfl, b9⟩
    go_wp2
    go_ret
    exact ⟨rfl, B8.out.trans (b9.mono B8.out.size)⟩

end Go.Proofs.YtilblnolfcbdlabDoor
