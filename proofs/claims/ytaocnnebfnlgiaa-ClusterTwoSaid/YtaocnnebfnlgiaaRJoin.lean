/-
  The contract of the reference's Join.
-/
import Derived.Test.YtaocnnebfnlgiaaBuild
import Derived.Test.YtaocnnebfnlgiaaRef3
namespace Go.Proofs.Ytaocnnebfnlgiaa
open Go.RowKit

theorem refEnc_bad (c : Int) (h : mayB c = false) : refEnc c = [] := by simp [refEnc, h]
theorem refEnc_yes (c : Int) (h : mayB c = true) : refEnc c = Lib.encodeRune c := by simp [refEnc, h]

theorem ba_app (a b : List UInt8) : (⟨a.toArray⟩ : ByteArray) ++ (⟨b.toArray⟩ : ByteArray) = ⟨(a ++ b).toArray⟩ := by
  apply ba_ext
  simp
theorem str_app (a b : List UInt8) : Value.string ((⟨a.toArray⟩ : ByteArray) ++ (⟨b.toArray⟩ : ByteArray)) = .string ⟨(a ++ b).toArray⟩ := by rw [ba_app]

set_option maxHeartbeats 2000000 in
set_option maxRecDepth 100000 in
theorem rjoin_any (l : List Int) (v : Value) (w : World) (hv : IsInts w v l) (hl : l.length ≤ 1000000) :
    Calls Try.prog 20 #[v] w fun e w' => e = .returned (.string ⟨(joinL l).toArray⟩) ∧ Below w.heap.size w w' := by
  obtain ⟨A, ca, rfl, hca1, hca2, hA⟩ := hv
  by_cases h0 : 0 < l.length
  · obtain ⟨b, off, rfl, hcell⟩ := hA h0
    have HC : Hid (∀ W' : World, Below w.heap.size w W' → ∀ j, j < l.length → W'.cell? ⟨b, off + j, none⟩ = some (.int .i64 (l.getD j 0))) := by
      intro W' hb j hj
      have := hcell j hj
      rw [hb.cell (p := ⟨b, off + j, none⟩) (World.block_lt_of_cell? _ _ this)]
      exact this
    clear hA hcell
    go_enter Try.func20, Try.ntmps20
    go_wp2
    go_loopw [3, 4] (fun s i wr => ∃ k : Nat, i = .int .i64 k ∧ k ≤ l.length ∧ s = .string ⟨(joinL (l.take k)).toArray⟩ ∧ Aside (Below w.heap.size w wr)) (fun _ i _ => l.length - (intOf i).toNat)
    case atStart => exact ⟨0, rfl, by omega, rfl, Below.refl _ _⟩
    case round =>
      obtain ⟨k, rfl, hk, rfl, HX⟩ := hrel
      by_cases hlt : k < l.length
      · have d0 := HC.out wr HX.out k hlt
        have hsn := joinL_snoc l k hlt
        have hjl := joinL_len (l.take k)
        have htl : (l.take k).length ≤ k := List.length_take_le _ _
        obtain ⟨c, hc⟩ : ∃ c, l.getD k 0 = c := ⟨_, rfl⟩
        rw [hc] at d0 hsn
        obtain ⟨js, hjs⟩ : ∃ js, joinL (l.take k) = js := ⟨_, rfl⟩
        rw [hjs] at hsn hjl ⊢
        have hjb : js.length ≤ 4000000 := by omega
        have HSN := Lib.hid hsn
        have CE := fun W : World => renc_any c W
        have CB := fun W : World => renc_any 65533 W
        cases hm : mayB c with
        | true =>
          rw [refEnc_yes c hm] at CE
          have ho : orSpoilt c = c := by simp [orSpoilt, hm]
          rw [ho] at HSN
          have hel := enc_len c
          obtain ⟨en, hen⟩ : ∃ en, Lib.encodeRune c = en := ⟨_, rfl⟩
          rw [hen] at CE HSN hel
          have hz : (en == []) = false := by
            cases en
            · simp at hel
            · rfl
          have hz2 : en.isEmpty = false := by
            cases en
            · simp at hel
            · rfl
          clear hm ho hen hc hsn hjs hjl htl
          go_wp2_with fail
          refine (CE wr).mono ?_
          rintro e w1 ⟨rfl, b1⟩
          have X1 := aside (HX.out.trans (b1.mono HX.out.size))
          clear b1
          go_wp2
          go_roundw
          case rel => exact ⟨k + 1, by go_num, by omega, by rw [HSN.out]; exact str_app _ _, X1⟩
          case measure => simp [intOf]; omega
        | false =>
          rw [refEnc_bad c hm] at CE
          have ho : orSpoilt c = 65533 := by simp [orSpoilt, hm]
          rw [ho] at HSN
          rw [refEnc_yes 65533 (by decide)] at CB
          have hel := enc_len 65533
          obtain ⟨en, hen⟩ : ∃ en, Lib.encodeRune 65533 = en := ⟨_, rfl⟩
          rw [hen] at CB HSN hel
          clear hm ho hen hc hsn hjs hjl htl
          go_wp2_with fail
          refine (CE wr).mono ?_
          rintro e w1 ⟨rfl, b1⟩
          have X1 := aside (HX.out.trans (b1.mono HX.out.size))
          clear b1
          go_wp2_with fail
          refine (CB w1).mono ?_
          rintro e w2 ⟨rfl, b2⟩
          have X2 := aside (X1.out.trans (b2.mono X1.out.size))
          clear b2
          go_wp2
          go_roundw
          case rel => exact ⟨k + 1, by go_num, by omega, by rw [HSN.out]; exact str_app _ _, X2⟩
          case measure => simp [intOf]; omega
      · have HE : Hid (joinL (l.take k) = joinL l) := by show _ = _; rw [List.take_of_length_le (by omega)]
        go_wp2
        go_ret
        exact ⟨ret_str (by rw [HE.out]), HX.out⟩
  · obtain rfl : l = [] := List.eq_nil_of_length_eq_zero (by omega)
    clear hA h0
    go_enter Try.func20, Try.ntmps20
    go_wp2
    refine wp_loop_rounds 1 ?_
    rw [rounds_succ]
    go_wp2
    go_ret
    exact ⟨rfl, Below.refl _ _⟩

end Go.Proofs.Ytaocnnebfnlgiaa
