/-
  The walk of UtfTwo.
-/
import Derived.Test.YtilblnolfcbdlaaDoorJoinsW
import Derived.Test.YtilblnolfcbdlaaDoorRowApp
namespace Go.Proofs.YtilblnolfcbdlaaDoor
open Go.RowKit

theorem app_list (l : List UInt8) (s : ByteArray) : ((⟨l.toArray⟩ : ByteArray) ++ s).data.toList = l ++ s.data.toList := by simp
theorem chars_two (G : List Int) (s : ByteArray) (h : ∀ c ∈ G, mayB c = true) : chars ((⟨(joinL G).toArray⟩ : ByteArray) ++ s) = G ++ chars s := by
  rw [chars_L, chars_L, app_list, charsL_join, map_orSpoilt G h]
theorem valid_two (G : List Int) (s : ByteArray) : validB ((⟨(joinL G).toArray⟩ : ByteArray) ++ s) = validB s := by
  rw [validB_D, validB_D, app_list, validD_join]
theorem size_two (G : List Int) (s : ByteArray) : ((⟨(joinL G).toArray⟩ : ByteArray) ++ s).size ≤ 4 * G.length + s.size := by
  have := size_join G
  have e : ((⟨(joinL G).toArray⟩ : ByteArray) ++ s).size = (⟨(joinL G).toArray⟩ : ByteArray).size + s.size := by simp
  omega

set_option maxRecDepth 100000 in
set_option maxHeartbeats 4000000 in
theorem utfTwo_walk (v0 : Value) (l : List Int) (s0 : ByteArray) (w : World) (hv : IsInts w v0 l) (hb : ∀ x ∈ l, -9223372036854775808 ≤ x ∧ x ≤ 9223372036854775807) (hl : l.length ≤ 9223372036854775807) (hs0 : s0.size ≤ 9223372036854775807) (hT : Lib.Utf8Tabs 0 1 w) :
    Calls Tryd.prog 7 #[v0, .string s0] w fun e w' => e = .returned (.bool true) ∧ Below w.heap.size w w' := by
  obtain ⟨i0, hi, hz0, hz1, hz2⟩ := info_parts info_int3
  have hle := fewS_le s0 40
  have HF := Lib.hid (fun W : World => few_any s0 40 W hs0 (by omega))
  obtain ⟨s, hs⟩ : ∃ s, fewS s0 40 = s := ⟨_, rfl⟩
  rw [hs] at hle HF
  have HV := Lib.hid hv
  have HBD := Lib.hid (mem_bd' hb)
  have HTT := Lib.hid hT
  obtain ⟨A, c, rfl, hlc, hcm, hA⟩ := hv.cases
  have CSA := Lib.hid (fun W : World => uall_any s W (by omega))
  have CSL := Lib.hid (fun W : World => ulen_any s W (by omega))
  have CSV := Lib.hid (fun (W : World) (h : Lib.Utf8Tabs 0 1 W) => uvalid_any s W (by omega) h)
  have hcl := chars_len_le s
  obtain ⟨cs, hcs⟩ : ∃ cs, chars s = cs := ⟨_, rfl⟩
  obtain ⟨vb, hvb⟩ : ∃ vb, validB s = vb := ⟨_, rfl⟩
  rw [hcs] at CSA CSL hcl
  rw [hvb] at CSV
  have HCS := Lib.hid hcs
  have HVB := Lib.hid hvb
  clear hb hv hT hs hcs hvb
  obtain ⟨p, hp8, hpl, hpm⟩ : ∃ p, p ≤ 8 ∧ p ≤ l.length ∧ (p = 8 ∨ p = l.length) := ⟨min l.length 8, by omega, by omega, by omega⟩
  have HPM := Lib.hid hpm
  clear hpm
  rcases hA with ⟨b, off, rfl, HC⟩ | ⟨_, hn⟩
  all_goals
    go_enter Tryd.func7, Tryd.ntmps7
    go_wp2_with fail
    refine (HF.out w).mono ?_
    rintro e w' ⟨rfl, rfl⟩
    go_wp2_with fail
    go_loopw [5, 6] (fun vo i wr => ∃ k : Nat, i = .int .i64 k ∧ k ≤ p ∧ Aside (wr.ownsRow w.heap.size 3 1 vo k (ints ((l.take k).map goodI)) ∧ Below w.heap.size w wr)) (fun _ i _ => p - (intOf i).toNat)
    case atStart => exact ⟨0, rfl, by omega, World.ownsRow_nil _ _ _ _, Below.refl _ _⟩
    case round =>
      obtain ⟨k, rfl, hk, HX⟩ := hrel
      by_cases hlt : k < p
      · first
          | (exfalso; omega)
          | (have d0 := HC.out k (by omega)
             rw [← HX.out.2.cell (p := ⟨b, off + k, none⟩) (World.block_lt_of_cell? _ _ d0)] at d0
             have hxb := HBD.out k (by omega)
             have hgs := goods_snoc l k (by omega)
             obtain ⟨x, hx⟩ : ∃ x, l.getD k 0 = x := ⟨_, rfl⟩
             rw [hx] at d0 hxb hgs
             obtain ⟨hx0, hx1⟩ := hxb
             have HGS := Lib.hid hgs
             have hszw := HX.out.2.size
             have hkl : k < l.length := by omega
             have hk8 : k < 8 := by omega
             clear hx hgs
             obtain ⟨gx, hgx⟩ : ∃ gx, goodI x = gx := ⟨_, rfl⟩
             have CG := fun W : World => good_any x W hx0 hx1
             rw [hgx] at CG HGS
             clear hgx
             go_wp2_with (first
               | (go_at_call 16; refine (CG _).mono ?_; rintro e w' ⟨rfl, rfl⟩)
               | (at_builtin
                  refine wpList_append_own _ rfl (.tmp 21) (.tmp 27) 23 rfl w.heap.size 3 i0 (.int .i64 0) 1 8 Tryd.underlying23 hi hz0 hz1 hz2 rfl (by decide) _ _ _ rfl (HX.out.1.alloc _) ⟨wr.heap.size, 0, none⟩ 1 1 [.int .i64 gx] rfl rfl (cell_one_new _ _ _) (fun x hx => by simp at hx; subst hx; rfl) (by unfold maxLen; omega) (by omega) (by simp; omega) ?_
                  intro v' w3 hown' hgrow3 hnil3
                  have X : Aside (w3.ownsRow w.heap.size 3 1 v' (k + 1) (ints ((l.take (k + 1)).map goodI)) ∧ Below w.heap.size w w3) := ⟨by rw [HGS.out, ints_append]; exact hown', Below.grown (HX.out.2.alloc (by omega) _) hgrow3 (by simp; omega) (fun j hj => by have := (HX.out.1.lt _ hj).1; omega)⟩
                  clear hown' hgrow3 hnil3))
             go_roundw
             case rel => exact ⟨k + 1, by go_num, by omega, X⟩
             case measure => simp [intOf]; omega)
      · have hex : l.length ≤ k ∨ (k < l.length ∧ 8 ≤ k) := by
          have := HPM.out
          omega
        have hlen : ((l.take k).map goodI).length = k := by simp; omega
        have hmay := goods_may (l.take k)
        have ho := HX.out.1
        obtain ⟨G, hG⟩ : ∃ G, (l.take k).map goodI = G := ⟨_, rfl⟩
        rw [hG] at hlen hmay ho
        have hco := chars_two G s hmay
        have hvo := valid_two G s
        have hso := size_two G s
        rw [HCS.out] at hco
        rw [HVB.out] at hvo
        have hform : ∃ Aw cw, u5 = .slice Aw k cw := by
          rcases ho.2 with ⟨h, h0⟩ | ⟨g, cap, cur, h, _⟩
          · exact ⟨none, 0, by rw [h, h0]⟩
          · exact ⟨_, cap, h⟩
        obtain ⟨Aw, cw, rfl⟩ := hform
        have ho2 : wr.ownsRow w.heap.size 3 1 (.slice Aw k cw) G.length (ints G) := by rw [hlen]; exact ho
        have IG := Lib.hid (IsInts.of_own ho2)
        have CA := fun W : World => uall_any ((⟨(joinL G).toArray⟩ : ByteArray) ++ s) W (by omega)
        have CL := fun W : World => ulen_any ((⟨(joinL G).toArray⟩ : ByteArray) ++ s) W (by omega)
        have CV := fun (W : World) (h : Lib.Utf8Tabs 0 1 W) => uvalid_any ((⟨(joinL G).toArray⟩ : ByteArray) ++ s) W (by omega) h
        have CJ := fun (W : World) (h : IsInts W (.slice Aw k cw) G) => ujoin_any G (.slice Aw k cw) W h (by omega)
        rw [hco] at CA CL
        rw [hvo] at CV
        rw [List.length_append, hlen] at CL
        obtain ⟨jg, hjg⟩ : ∃ jg, joinL G = jg := ⟨_, rfl⟩
        rw [hjg] at CA CV CL CJ
        have H1 := Lib.hid CA; have H2 := Lib.hid CV; have H3 := Lib.hid CL; have H4 := Lib.hid CJ
        have HO := Lib.hid ho
        have HLEN := Lib.hid hlen
        have hbk := HX.out.2.size
        have hkb : k ≤ 8 := by omega
        have hjl := joinL_len G
        rw [hjg, hlen] at hjl
        clear CA CV CL CJ hjg hco hvo hso ho2 ho hmay hlen hG
        rcases hex with hex | ⟨hex1, hex2⟩
        all_goals try (exfalso; omega)
        all_goals
          go_wp2_with fail
          refine (H4.out wr IG.out).mono ?_
          rintro e w1 ⟨rfl, b1⟩
          have O1 := Lib.hid (own_below HO.out b1 (Nat.le_refl _))
          have B1 := aside (HX.out.2.trans (b1.mono hbk))
          have hsz1 := B1.out.size
          clear b1
          go_wp2_with (first
            | (at_builtin
               refine wpList_append_row1 _ rfl (.tmp 31) (.tmp 32) 23 rfl 3 i0 (.int .i64 0) 8 Tryd.underlying23 hi hz0 hz1 hz2 rfl w1.heap.size _ (.slice none 0 0) 0 [] rfl (World.ownsRow_nil _ _ _ _) _ k (ints G) rfl (by rw [ints_length]; exact HLEN.out) O1.out (ints_one G) (by omega) (by omega) (Nat.le_refl _) ?_
               intro v2 w2 hown2 hg2
               have b2 : Below w1.heap.size w1 w2 := Below.grown (Below.refl _ _) hg2 (Nat.le_refl _) (fun j hj => by simp [Value.ownBlock] at hj)
               have B2 := aside (B1.out.trans (b2.mono hsz1))
               have hsz2 := b2.size
               have O2 : Hid (w2.ownsRow w1.heap.size 3 1 v2 k (ints G)) := by have h := hown2; rw [Nat.zero_add, List.nil_append] at h; exact h
               clear hown2 hg2 b2))
          refine (CSA.out w2).mono ?_
          rintro e w3 ⟨v3, rfl, o3, b3⟩
          have O3 := Lib.hid (own_below O2.out b3 (Nat.le_refl _))
          have P3 := Lib.hid o3
          have hsz3 := b3.size
          have B3 := aside (B2.out.trans (b3.mono B2.out.size))
          clear b3 o3
          go_wp2_with (first
            | (at_builtin
               refine wpList_append_row1 _ rfl (.tmp 34) (.tmp 36) 23 rfl 3 i0 (.int .i64 0) 8 Tryd.underlying23 hi hz0 hz1 hz2 rfl w1.heap.size _ _ k _ rfl O3.out _ cs.length (ints cs) rfl (ints_length cs) P3.out (ints_one cs) (by omega) (by omega) (by omega) ?_
               intro v4 w4 hown4 hg4
               have B4 := aside (Below.grown B3.out hg4 (by omega) (fun j hj => by have := (O3.out.lt _ hj).1; omega))
               have I4 : Hid (IsInts w4 v4 (G ++ cs)) := by
                 have h := hown4
                 rw [← ints_append] at h
                 have e : k + cs.length = (G ++ cs).length := by rw [List.length_append, HLEN.out]
                 rw [e] at h
                 exact IsInts.of_own h
               clear hown4 hg4))
          refine (H1.out w4).mono ?_
          rintro e w5 ⟨v5, rfl, o5, b5⟩
          have I5 := Lib.hid (IsInts.of_own o5)
          have J5 := Lib.hid (I4.out.below b5 (Nat.le_refl _))
          have B5 := aside (B4.out.trans (b5.mono B4.out.size))
          clear b5 o5
          go_wp2_with fail
          refine (same_yes (G ++ cs) _ _ w5 I5.out J5.out (by rw [List.length_append, HLEN.out]; omega)).mono ?_
          rintro e w6 ⟨rfl, n6, rfl⟩
          have B6 := aside (below_drewN B5.out n6)
          go_wp2_with fail
          refine (H3.out _).mono ?_
          rintro e w7 ⟨rfl, b7⟩
          have B7 := aside (B6.out.trans (b7.mono B6.out.size))
          clear b7
          go_wp2_with fail
          refine (CSL.out _).mono ?_
          rintro e w8 ⟨rfl, b8⟩
          have B8 := aside (B7.out.trans (b8.mono B7.out.size))
          have T8 := Lib.hid (tabs_below HTT.out B8.out (tabs_size HTT.out))
          clear b8
          go_wp2_with fail
          refine (H2.out _ T8.out).mono ?_
          rintro e w9 ⟨rfl, b9⟩
          have B9 := aside (B8.out.trans (b9.mono B8.out.size))
          have T9 := Lib.hid (tabs_below HTT.out B9.out (tabs_size HTT.out))
          clear b9
          go_wp2_with fail
          refine (CSV.out _ T9.out).mono ?_
          rintro e w10 ⟨rfl, b10⟩
          have B10 := aside (B9.out.trans (b10.mono B9.out.size))
          clear b10
          go_wp2_with fail
          refine (lives1 _).mono ?_
          rintro e w11 ⟨rfl, b11⟩
          go_wp2
          go_ret
          exact ⟨rfl, B10.out.trans (b11.mono B10.out.size)⟩

end Go.Proofs.YtilblnolfcbdlaaDoor
