/-
  Contracts: the program's Starts, Len, Valid; the reference's Join.
-/
import Derived.Test.YtilblnolfcbdlabDoorBuild
import Derived.Test.YtilblnolfcbdlabDoorRef3
import Derived.Test.YtilblnolfcbdlabDoorTabs
import Derived.Shelf.Unicode.ValidAny
namespace Go.Proofs.YtilblnolfcbdlabDoor
open Go.RowKit

theorem refEnc_bad (c : Int) (h : mayB c = false) : refEnc c = [] := by simp [refEnc, h]
theorem refEnc_yes (c : Int) (h : mayB c = true) : refEnc c = Lib.encodeRune c := by simp [refEnc, h]

theorem ba_app (a b : List UInt8) : (⟨a.toArray⟩ : ByteArray) ++ (⟨b.toArray⟩ : ByteArray) = ⟨(a ++ b).toArray⟩ := by
  apply ba_ext
  simp
theorem str_app (a b : List UInt8) : Value.string ((⟨a.toArray⟩ : ByteArray) ++ (⟨b.toArray⟩ : ByteArray)) = .string ⟨(a ++ b).toArray⟩ := by rw [ba_app]

set_option maxHeartbeats 2000000 in
set_option maxRecDepth 100000 in
theorem rjoin_any (l : List Int) (v : Value) (w : World) (hv : IsInts w v l) (hl : l.length ≤ 1000000) :
    Calls Tryd.prog 7 #[v] w fun e w' => e = .returned (.string ⟨(joinL l).toArray⟩) ∧ Below w.heap.size w w' := by
  obtain ⟨A, ca, rfl, hca1, hca2, hA⟩ := hv
  by_cases h0 : 0 < l.length
  · obtain ⟨b, off, rfl, hcell⟩ := hA h0
    have HC : Hid (∀ W' : World, Below w.heap.size w W' → ∀ j, j < l.length → W'.cell? ⟨b, off + j, none⟩ = some (.int .i64 (l.getD j 0))) := by
      intro W' hb j hj
      have := hcell j hj
      rw [hb.cell (p := ⟨b, off + j, none⟩) (World.block_lt_of_cell? _ _ this)]
      exact this
    clear hA hcell
    go_enter Tryd.func7, Tryd.ntmps7
    go_wp2
    go_loopw [3, 4] (fun s i wr => ∃ k : Nat, i = .int .i64 k ∧ k ≤ l.length ∧ s = .string ⟨(joinL (l.take k)).toArray⟩ ∧ Aside (Below w.heap.size w wr)) (fun _ i _ => l.length - (intOf i).toNat)
    case atStart => exact ⟨0, rfl, by omega, rfl, Below.refl _ _⟩
    case round =>
      obtain ⟨k, rfl, hk, rfl, HX⟩ := hrel
      by_cases hlt : k < l.length
      · have d0 := HC.out wr HX.out k hlt
        have hsn := joinL_snoc l k hlt
        have hjl := joinL_len (l.take k)
        have htl : (l.take k).length ≤ k := List.length_take_le _ _
        obtain ⟨c, hc⟩ : ∃ c, l.getD k 0 = c := ⟨_, rfl⟩
        rw [hc] at d0 hsn
        obtain ⟨js, hjs⟩ : ∃ js, joinL (l.take k) = js := ⟨_, rfl⟩
        rw [hjs] at hsn hjl ⊢
        have hjb : js.length ≤ 4000000 := by omega
        have HSN := Lib.hid hsn
        have CE := fun W : World => renc_any c W
        have CB := fun W : World => renc_any 65533 W
        cases hm : mayB c with
        | true =>
          rw [refEnc_yes c hm] at CE
          have ho : orSpoilt c = c := by simp [orSpoilt, hm]
          rw [ho] at HSN
          have hel := enc_len c
          obtain ⟨en, hen⟩ : ∃ en, Lib.encodeRune c = en := ⟨_, rfl⟩
          rw [hen] at CE HSN hel
          have hz : (en == []) = false := by
            cases en
            · simp at hel
            · rfl
          have hz2 : en.isEmpty = false := by
            cases en
            · simp at hel
            · rfl
          clear hm ho hen hc hsn hjs hjl htl
          go_wp2_with fail
          refine (CE wr).mono ?_
          rintro e w1 ⟨rfl, b1⟩
          have X1 := aside (HX.out.trans (b1.mono HX.out.size))
          clear b1
          go_wp2
          go_roundw
          case rel => exact ⟨k + 1, by go_num, by omega, by rw [HSN.out]; exact str_app _ _, X1⟩
          case measure => simp [intOf]; omega
        | false =>
          rw [refEnc_bad c hm] at CE
          have ho : orSpoilt c = 65533 := by simp [orSpoilt, hm]
          rw [ho] at HSN
          rw [refEnc_yes 65533 (by decide)] at CB
          have hel := enc_len 65533
          obtain ⟨en, hen⟩ : ∃ en, Lib.encodeRune 65533 = en := ⟨_, rfl⟩
          rw [hen] at CB HSN hel
          clear hm ho hen hc hsn hjs hjl htl
          go_wp2_with fail
          refine (CE wr).mono ?_
          rintro e w1 ⟨rfl, b1⟩
          have X1 := aside (HX.out.trans (b1.mono HX.out.size))
          clear b1
          go_wp2_with fail
          refine (CB w1).mono ?_
          rintro e w2 ⟨rfl, b2⟩
          have X2 := aside (X1.out.trans (b2.mono X1.out.size))
          clear b2
          go_wp2
          go_roundw
          case rel => exact ⟨k + 1, by go_num, by omega, by rw [HSN.out]; exact str_app _ _, X2⟩
          case measure => simp [intOf]; omega
      · have HE : Hid (joinL (l.take k) = joinL l) := by show _ = _; rw [List.take_of_length_le (by omega)]
        go_wp2
        go_ret
        exact ⟨ret_str (by rw [HE.out]), HX.out⟩
  · obtain rfl : l = [] := List.eq_nil_of_length_eq_zero (by omega)
    clear hA h0
    go_enter Tryd.func7, Tryd.ntmps7
    go_wp2
    refine wp_loop_rounds 1 ?_
    rw [rounds_succ]
    go_wp2
    go_ret
    exact ⟨rfl, Below.refl _ _⟩

/-- Is no byte spoilt? By the model's decoder, and by the library's word. -/
theorem validFrom_D (s : ByteArray) : ∀ fuel pos, s.size ≤ pos + fuel → validFrom s fuel pos = Lib.validD (s.data.toList.drop pos)
  | 0, pos, h => by
    rw [List.drop_of_length_le (by simp; omega)]
    rfl
  | fuel + 1, pos, h => by
    by_cases hp : pos < s.size
    · have hne : s.data.toList.drop pos ≠ [] := by
        intro e
        have := congrArg List.length e
        simp at this
        omega
      have hw := Lib.decode_width_pos s pos hp
      rw [validFrom_step s fuel pos hp, Lib.validD_step _ hne, Lib.decodeL_drop, List.drop_drop, validFrom_D s fuel _ (by omega)]
      cases hg : goodD (Utf8.decode s pos) with
      | true => rw [if_neg (goodD_true _ hg)]; rfl
      | false => rw [if_pos (goodD_false _ hg)]; rfl
    · rw [validFrom_end s _ _ hp, List.drop_of_length_le (by simp; omega)]
      rfl
theorem validB_D (s : ByteArray) : validB s = Lib.validD s.data.toList := by
  unfold validB
  rw [validFrom_D s s.size 0 (by omega)]
  rfl
theorem count_chars (s : ByteArray) : ∀ fuel pos, (charsFrom s fuel pos).length = Lib.runeCountFrom s fuel pos
  | 0, _ => rfl
  | fuel + 1, pos => by
    unfold charsFrom Lib.runeCountFrom
    split
    · simp [count_chars s fuel]; omega
    · rfl

set_option maxHeartbeats 400000 in
theorem ulen_any (s : ByteArray) (w : World) (hs : s.size < 9223372036854775807) :
    Calls Tryd.prog 9 #[.string s] w fun e w' => e = .returned (.int .i64 ((chars s).length : Int)) ∧ Below w.heap.size w w' := by
  have hc : (chars s).length = Lib.runeCount s := count_chars s _ _
  rw [hc]
  have HC := Lib.hid (Tryd.utf8_RuneCountInString s w hs)
  obtain ⟨n, hn⟩ : ∃ n, Lib.runeCount s = n := ⟨_, rfl⟩
  rw [hn] at HC ⊢
  clear hn hc
  go_enter Tryd.func9, Tryd.ntmps9
  go_wp2_with fail
  refine HC.out.mono ?_
  rintro e w1 ⟨rfl, pos, rfl⟩
  go_wp2
  go_ret
  exact ⟨rfl, (Below.refl _ _).alloc (Nat.le_refl _) _⟩

set_option maxHeartbeats 400000 in
theorem uvalid_any (s : ByteArray) (w : World) (hs : s.size ≤ 9223372036854775807) (hT : Lib.Utf8Tabs 0 1 w) :
    Calls Tryd.prog 8 #[.string s] w fun e w' => e = .returned (.bool (validB s)) ∧ Below w.heap.size w w' := by
  rw [validB_D]
  have HC := Lib.hid (Any.utf8_ValidString Tryd.laysValid s w hs hT)
  obtain ⟨n, hn⟩ : ∃ n, Lib.validD s.data.toList = n := ⟨_, rfl⟩
  rw [hn] at HC ⊢
  clear hn
  go_enter Tryd.func8, Tryd.ntmps8
  go_wp2_with fail
  refine HC.out.mono ?_
  rintro e w1 ⟨rfl, b1⟩
  go_wp2
  go_ret
  exact ⟨rfl, b1⟩

end Go.Proofs.YtilblnolfcbdlabDoor
