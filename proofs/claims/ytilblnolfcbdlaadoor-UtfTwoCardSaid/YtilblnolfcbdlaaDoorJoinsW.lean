/-
  The walk of UtfJoins.
-/
import Derived.Test.YtilblnolfcbdlaaDoorCharsL
import Derived.Test.YtilblnolfcbdlaaDoorAllW
import Derived.Test.YtilblnolfcbdlaaDoorEncP
namespace Go.Proofs.YtilblnolfcbdlaaDoor
open Go.RowKit

theorem valid_join0 (l : List Int) : validB ⟨(joinL l).toArray⟩ = true := by
  rw [validB_D]
  simp only [List.toList_toArray]
  exact validD_join0 l
theorem chars_join0 (l : List Int) (h : ∀ c ∈ l, mayB c = true) : chars ⟨(joinL l).toArray⟩ = l := by
  rw [chars_L]
  simp only [List.toList_toArray]
  rw [charsL_join0, map_orSpoilt l h]
theorem goods_may (l : List Int) : ∀ c ∈ l.map goodI, mayB c = true := by
  intro c hc
  obtain ⟨n, _, rfl⟩ := List.mem_map.1 hc
  exact good_may n
theorem goods_snoc (l : List Int) (k : Nat) (hk : k < l.length) : (l.take (k + 1)).map goodI = (l.take k).map goodI ++ [goodI (l.getD k 0)] := by
  rw [List.take_succ_eq_append_getElem hk, List.map_append]
  simp [hk]
theorem mem_bd' {l : List Int} (hb : ∀ x ∈ l, -9223372036854775808 ≤ x ∧ x ≤ 9223372036854775807) : ∀ j, j < l.length → -9223372036854775808 ≤ l.getD j 0 ∧ l.getD j 0 ≤ 9223372036854775807 := by
  intro j hj
  have e : l.getD j 0 = l[j] := by simp [hj]
  rw [e]
  exact hb _ (List.getElem_mem hj)
theorem size_join (l : List Int) : (⟨(joinL l).toArray⟩ : ByteArray).size ≤ 4 * l.length := by
  show (joinL l).toArray.size ≤ _
  rw [List.size_toArray]
  exact joinL_len l

/-- A list that came in: where it lies, or that it is empty. -/
theorem IsInts.cases {w : World} {v : Value} {l : List Int} (h : IsInts w v l) : ∃ A c, v = .slice A l.length c ∧ l.length ≤ c ∧ c ≤ 9223372036854775807 ∧
    ((∃ b off, A = some ⟨b, off, none⟩ ∧ Hid (∀ j, j < l.length → w.cell? ⟨b, off + j, none⟩ = some (.int .i64 (l.getD j 0)))) ∨ (A = A ∧ l.length ≤ 0)) := by
  obtain ⟨A, c, rfl, h1, h2, h3⟩ := h
  refine ⟨A, c, rfl, h1, h2, ?_⟩
  by_cases h0 : 0 < l.length
  · obtain ⟨b, off, rfl, hc⟩ := h3 h0
    exact .inl ⟨b, off, rfl, hc⟩
  · exact .inr ⟨rfl, by omega⟩

set_option maxRecDepth 100000 in
set_option maxHeartbeats 4000000 in
theorem utfJoins_walk (v0 : Value) (l : List Int) (w : World) (hv : IsInts w v0 l) (hb : ∀ x ∈ l, -9223372036854775808 ≤ x ∧ x ≤ 9223372036854775807) (hl : l.length ≤ 9223372036854775807) (hT : Lib.Utf8Tabs 0 1 w) :
    Calls Tryd.prog 4 #[v0] w fun e w' => e = .returned (.bool true) ∧ Below w.heap.size w w' := by
  obtain ⟨i0, hi, hz0, hz1, hz2⟩ := info_parts info_int3
  have HV := Lib.hid hv
  have HBD := Lib.hid (mem_bd' hb)
  have HTT := Lib.hid hT
  obtain ⟨A, c, rfl, hlc, hcm, hA⟩ := hv.cases
  clear hb hv hT
  rcases hA with ⟨b, off, rfl, HC⟩ | ⟨_, hn⟩
  all_goals
    go_enter Tryd.func4, Tryd.ntmps4
    go_wp2_with fail
    generalize hp : (min (l.length : Int) 20).toNat = p
    have hp20 : p ≤ 20 := by omega
    have hpl : p ≤ l.length := by omega
    clear hp
    go_loopw [4, 5] (fun vo i wr => ∃ k : Nat, i = .int .i64 k ∧ k ≤ p ∧ Aside (wr.ownsRow w.heap.size 3 1 vo k (ints ((l.take k).map goodI)) ∧ Below w.heap.size w wr)) (fun _ i _ => p - (intOf i).toNat)
    case atStart => exact ⟨0, rfl, by omega, World.ownsRow_nil _ _ _ _, Below.refl _ _⟩
    case round =>
      obtain ⟨k, rfl, hk, HX⟩ := hrel
      by_cases hlt : k < p
      · first
          | (exfalso; omega)
          | (have d0 := HC.out k (by omega)
             rw [← HX.out.2.cell (p := ⟨b, off + k, none⟩) (World.block_lt_of_cell? _ _ d0)] at d0
             have hxb := HBD.out k (by omega)
             have hgs := goods_snoc l k (by omega)
             obtain ⟨x, hx⟩ : ∃ x, l.getD k 0 = x := ⟨_, rfl⟩
             rw [hx] at d0 hxb hgs
             obtain ⟨hx0, hx1⟩ := hxb
             have HGS := Lib.hid hgs
             have hszw := HX.out.2.size
             clear hx hgs
             obtain ⟨gx, hgx⟩ : ∃ gx, goodI x = gx := ⟨_, rfl⟩
             have CG := fun W : World => good_any x W hx0 hx1
             rw [hgx] at CG HGS
             clear hgx
             go_wp2_with (first
               | (go_at_call 16; refine (CG _).mono ?_; rintro e w' ⟨rfl, rfl⟩)
               | (at_builtin
                  refine wpList_append_own _ rfl (.tmp 18) (.tmp 24) 23 rfl w.heap.size 3 i0 (.int .i64 0) 1 8 Tryd.underlying23 hi hz0 hz1 hz2 rfl (by decide) _ _ _ rfl (HX.out.1.alloc _) ⟨wr.heap.size, 0, none⟩ 1 1 [.int .i64 gx] rfl rfl (cell_one_new _ _ _) (fun x hx => by simp at hx; subst hx; rfl) (by unfold maxLen; omega) (by omega) (by simp; omega) ?_
                  intro v' w3 hown' hgrow3 hnil3
                  have X : Aside (w3.ownsRow w.heap.size 3 1 v' (k + 1) (ints ((l.take (k + 1)).map goodI)) ∧ Below w.heap.size w w3) := ⟨by rw [HGS.out, ints_append]; exact hown', Below.grown (HX.out.2.alloc (by omega) _) hgrow3 (by simp; omega) (fun j hj => by have := (HX.out.1.lt _ hj).1; omega)⟩
                  clear hown' hgrow3 hnil3))
             go_roundw
             case rel => exact ⟨k + 1, by go_num, by omega, X⟩
             case measure => simp [intOf]; omega)
      · obtain rfl : k = p := by omega
        have hlen : ((l.take k).map goodI).length = k := by simp; omega
        have hlen2 : (l.take k).length = k := by simp; omega
        have hmay := goods_may (l.take k)
        have IR := Lib.hid ((HV.out.take_ k hpl).below HX.out.2 (Nat.le_refl _))
        have ho := HX.out.1
        obtain ⟨G, hG⟩ : ∃ G, (l.take k).map goodI = G := ⟨_, rfl⟩
        obtain ⟨R, hR⟩ : ∃ R, l.take k = R := ⟨_, rfl⟩
        rw [hG] at hlen hmay ho
        rw [hR] at hlen2 IR
        rw [← hlen] at ho
        have IG := Lib.hid (IsInts.of_own ho)
        have hcj := chars_join0 G hmay
        have hsj := size_join G
        have hsr := size_join R
        have hvg := valid_join0 G
        have hvr := valid_join0 R
        have CA := fun W : World => uall_any ⟨(joinL G).toArray⟩ W (by omega)
        rw [hcj] at CA
        have CVG := fun (W : World) (h : Lib.Utf8Tabs 0 1 W) => uvalid_any ⟨(joinL G).toArray⟩ W (by omega) h
        have CVR := fun (W : World) (h : Lib.Utf8Tabs 0 1 W) => uvalid_any ⟨(joinL R).toArray⟩ W (by omega) h
        rw [hvg] at CVG
        rw [hvr] at CVR
        have CJG := fun (W : World) (h : IsInts W u4 G) => ujoin_any G u4 W h (by omega)
        have CJR := fun (W : World) (v : Value) (h : IsInts W v R) => ujoin_any R v W h (by omega)
        have CKG := fun (W : World) (h : IsInts W u4 G) => rjoin_any G u4 W h (by omega)
        have CKR := fun (W : World) (v : Value) (h : IsInts W v R) => rjoin_any R v W h (by omega)
        obtain ⟨jg, hjg⟩ : ∃ jg, joinL G = jg := ⟨_, rfl⟩
        obtain ⟨jr, hjr⟩ : ∃ jr, joinL R = jr := ⟨_, rfl⟩
        rw [hjg] at CA CVG CJG CKG
        rw [hjr] at CVR CJR CKR
        have H1 := Lib.hid CA; have H2 := Lib.hid CVG; have H3 := Lib.hid CVR; have H4 := Lib.hid CJG; have H5 := Lib.hid CJR; have H6 := Lib.hid CKG; have H7 := Lib.hid CKR
        have hG20 : G.length ≤ 20 := by omega
        clear CA CVG CVR CJG CJR CKG CKR hjg hjr hcj hsj hsr hvg hvr ho hmay hlen hlen2 hG hR
        go_wp2_with fail
        refine (H4.out wr IG.out).mono ?_
        rintro e w1 ⟨rfl, b1⟩
        have IR1 := Lib.hid (IR.out.below b1 (Nat.le_refl _))
        have IG1 := Lib.hid (IG.out.below b1 (Nat.le_refl _))
        have B1 := aside (HX.out.2.trans (b1.mono HX.out.2.size))
        clear b1
        go_wp2_with fail
        refine (H5.out w1 _ IR1.out).mono ?_
        rintro e w2 ⟨rfl, b2⟩
        have IR2 := Lib.hid (IR1.out.below b2 (Nat.le_refl _))
        have IG2 := Lib.hid (IG1.out.below b2 (Nat.le_refl _))
        have B2 := aside (B1.out.trans (b2.mono B1.out.size))
        clear b2
        go_wp2_with fail
        refine (H7.out w2 _ IR2.out).mono ?_
        rintro e w3 ⟨rfl, b3⟩
        have IR3 := Lib.hid (IR2.out.below b3 (Nat.le_refl _))
        have IG3 := Lib.hid (IG2.out.below b3 (Nat.le_refl _))
        have B3 := aside (B2.out.trans (b3.mono B2.out.size))
        clear b3
        go_wp2_with fail
        refine (H6.out w3 IG3.out).mono ?_
        rintro e w4 ⟨rfl, b4⟩
        have IR4 := Lib.hid (IR3.out.below b4 (Nat.le_refl _))
        have IG4 := Lib.hid (IG3.out.below b4 (Nat.le_refl _))
        have B4 := aside (B3.out.trans (b4.mono B3.out.size))
        clear b4
        go_wp2_with fail
        refine (H1.out w4).mono ?_
        rintro e w5 ⟨v5, rfl, o5, b5⟩
        have IR5 := Lib.hid (IR4.out.below b5 (Nat.le_refl _))
        have IG5 := Lib.hid (IG4.out.below b5 (Nat.le_refl _))
        have I5 := Lib.hid (IsInts.of_own o5)
        have B5 := aside (B4.out.trans (b5.mono B4.out.size))
        clear b5 o5
        go_wp2_with fail
        refine (same_yes G _ _ w5 I5.out IG5.out (by omega)).mono ?_
        rintro e w6 ⟨rfl, n6, rfl⟩
        have B6 := aside (below_drewN B5.out n6)
        have T6 := Lib.hid (tabs_below HTT.out B6.out (tabs_size HTT.out))
        go_wp2_with fail
        refine (H2.out _ T6.out).mono ?_
        rintro e w7 ⟨rfl, b7⟩
        have IR7 := Lib.hid ((IR5.out.drewN n6).below b7 (Nat.le_refl _))
        have B7 := aside (B6.out.trans (b7.mono B6.out.size))
        clear b7
        go_wp2_with fail
        refine (H5.out w7 _ IR7.out).mono ?_
        rintro e w8 ⟨rfl, b8⟩
        have B8 := aside (B7.out.trans (b8.mono B7.out.size))
        have T8 := Lib.hid (tabs_below HTT.out B8.out (tabs_size HTT.out))
        clear b8
        go_wp2_with fail
        refine (H3.out _ T8.out).mono ?_
        rintro e w9 ⟨rfl, b9⟩
        have B9 := aside (B8.out.trans (b9.mono B8.out.size))
        clear b9
        go_wp2_with fail
        refine (lives1 _).mono ?_
        rintro e w10 ⟨rfl, b10⟩
        go_wp2
        go_ret
        exact ⟨rfl, B9.out.trans (b10.mono B9.out.size)⟩

end Go.Proofs.YtilblnolfcbdlaaDoor
