/-
  The walk of ClusterTwo.
-/
import Derived.Test.YtaocnnebfnlgiaaGroups
import Derived.Test.YtaocnnebfnlgiaaTexts
import Derived.Test.YtaocnnebfnlgiaaRJoin
import Derived.Test.YtaocnnebfnlgiaaKinds
import Derived.Test.YtaocnnebfnlgiaaJoinB
import Derived.Test.YtaocnnebfnlgiaaRowApp
namespace Go.Proofs.Ytaocnnebfnlgiaa
open Go.RowKit

theorem kn_last (G : List Int) (k : Nat) (h : G.length = k + 1) : G.getLastD 0 = G.getD k 0 := by
  cases G with
  | nil => simp at h
  | cons x G =>
    rw [List.getD_eq_getElem?_getD]
    simp only [List.length_cons, Nat.add_right_cancel_iff] at h
    subst h
    simp [List.getLastD_cons, List.getLast?_eq_getElem?, List.getLastD_eq_getLast?]
theorem toText_app (a b : List Int) : toText (a ++ b) = toText a ++ toText b := by
  unfold toText
  rw [ba_app, joinL_app]

set_option maxRecDepth 100000 in
set_option maxHeartbeats 4000000 in
theorem clusterTwo_walk (v0 : Value) (l : List Int) (v1 : Value) (m : List Int) (w : World) (hv : IsInts w v0 l) (hb : ∀ x ∈ l, -9223372036854775808 ≤ x ∧ x ≤ 9223372036854775807) (hl : l.length ≤ 9223372036854775807) (hv1 : IsInts w v1 m) (hb1 : ∀ x ∈ m, -9223372036854775808 ≤ x ∧ x ≤ 9223372036854775807) (hl1 : m.length ≤ 9223372036854775807) :
    Calls Try.prog 5 #[v0, v1] w fun e w' => e = .returned (.bool true) ∧ Below w.heap.size w w' := by
  obtain ⟨i0, hi, hz0, hz1, hz2⟩ := info_parts info_int5
  obtain ⟨iS, hSi, hSz0, hSz1, hSz2⟩ := info_parts info_str5
  have HBD := Lib.hid (mem_bd3 hb)
  have HBM := Lib.hid (mem_bd3 hb1)
  obtain ⟨A, ca, rfl, hlc, hcm, hA⟩ := ints_cases hv
  obtain ⟨A2, ca2, rfl, hlc2, hcm2, hA2⟩ := ints_cases hv1
  obtain ⟨p, hp10, hpl, hpm⟩ : ∃ p, p ≤ 8 ∧ p ≤ l.length ∧ (p = 8 ∨ p = l.length) := ⟨min l.length 8, by omega, by omega, by omega⟩
  obtain ⟨p2, hp210, hp2l, hp2m⟩ : ∃ p, p ≤ 8 ∧ p ≤ m.length ∧ (p = 8 ∨ p = m.length) := ⟨min m.length 8, by omega, by omega, by omega⟩
  have HPM := Lib.hid hpm
  have HPM2 := Lib.hid hp2m
  clear hb hb1 hv hv1 hpm hp2m
  rcases hA with ⟨b, off, rfl, HC⟩ | ⟨_, hn⟩
  all_goals
   rcases hA2 with ⟨b2, off2, rfl, HC2⟩ | ⟨_, hn2⟩
   all_goals
    go_enter Try.func5, Try.ntmps5
    go_wp2_with fail
    go_loopw [5, 6] (fun vo i wr => ∃ k : Nat, i = .int .i64 k ∧ k ≤ p ∧ Aside (wr.ownsRow w.heap.size 3 1 vo k (ints ((l.take k).map kindI)) ∧ Below w.heap.size w wr)) (fun _ i _ => p - (intOf i).toNat)
    case atStart => exact ⟨0, rfl, by omega, World.ownsRow_nil _ _ _ _, Below.refl _ _⟩
    case round =>
      obtain ⟨k, rfl, hk, HX⟩ := hrel
      by_cases hlt : k < p
      · first
          | (exfalso; omega)
          | (have d0 := HC.out k (by omega)
             rw [← HX.out.2.cell (p := ⟨b, off + k, none⟩) (World.block_lt_of_cell? _ _ d0)] at d0
             have hxb := HBD.out k (by omega)
             have hgs := kinds_snoc l k (by omega)
             obtain ⟨x, hx⟩ : ∃ x, l.getD k 0 = x := ⟨_, rfl⟩
             rw [hx] at d0 hxb hgs
             obtain ⟨hx0, hx1⟩ := hxb
             have hszw := HX.out.2.size
             have HO := Lib.hid HX.out.1
             have HGS := Lib.hid hgs
             have hkl : k < l.length := by omega
             have hk8 : k < 8 := by omega
             clear hx hgs
             obtain ⟨gx, hgx⟩ : ∃ gx, kindI x = gx := ⟨_, rfl⟩
             have CG := fun W : World => kind_any x W hx0 hx1
             rw [hgx] at CG HGS
             clear hgx
             go_wp2_with fail
             refine (CG wr).mono ?_
             rintro e w1 ⟨rfl, b1⟩
             have O1 := Lib.hid (own_below HO.out b1 (Nat.le_refl _))
             have B1 := aside (HX.out.2.trans (b1.mono hszw))
             have hsz1 := B1.out.size
             clear b1
             go_wp2_with (first
               | (at_builtin
                  refine wpList_append_own _ rfl (.tmp 22) (.tmp 28) 22 rfl w.heap.size 3 i0 (.int .i64 0) 1 8 Try.underlying22 hi hz0 hz1 hz2 rfl (by decide) _ _ _ rfl (O1.out.alloc _) ⟨w1.heap.size, 0, none⟩ 1 1 [.int .i64 gx] rfl rfl (cell_one_new _ _ _) (fun x hx => by simp at hx; subst hx; rfl) (by unfold maxLen; omega) (by omega) (by simp; omega) ?_
                  intro v' w3 hown' hgrow3 hnil3
                  have X : Aside (w3.ownsRow w.heap.size 3 1 v' (k + 1) (ints ((l.take (k + 1)).map kindI)) ∧ Below w.heap.size w w3) := ⟨by rw [HGS.out, ints_append]; exact hown', Below.grown (B1.out.alloc (by omega) _) hgrow3 (by simp; omega) (fun j hj => by have := (O1.out.lt _ hj).1; omega)⟩
                  clear hown' hgrow3 hnil3))
             go_roundw
             case rel => exact ⟨k + 1, by go_num, by omega, X⟩
             case measure => simp [intOf]; omega)
      · obtain rfl : k = p := by omega
        obtain ⟨wo, rfl⟩ : ∃ wo : World, wo = wr := ⟨_, rfl⟩
        have hex : l.length ≤ k ∨ (k < l.length ∧ 8 ≤ k) := by
          have := HPM.out
          omega
        have hlen : ((l.take k).map kindI).length = k := by simp; omega
        have hmay : ∀ c ∈ (l.take k).map kindI, mayB c = true := kinds_may _
        have hkb := kinds_bd (l.take k)
        have ho := HX.out.1
        have HB := aside HX.out.2
        have hszb := HX.out.2.size
        obtain ⟨G, hG⟩ : ∃ G, (l.take k).map kindI = G := ⟨_, rfl⟩
        rw [hG] at hlen ho hmay hkb
        rw [← hlen] at ho
        have IG := Lib.hid (IsInts.of_own ho)
        have hux : ∃ ax cx, u5 = .slice ax k cx := by
          obtain ⟨ax, cx, e, _⟩ := IG.out
          rw [hlen] at e
          exact ⟨ax, cx, e⟩
        obtain ⟨ax, cx, rfl⟩ := hux
        have HMAY := Lib.hid hmay
        have HKB := Lib.hid hkb
        have HLG := Lib.hid hlen
        clear hG hlen ho hmay hkb HX
        rcases hex with hex | ⟨hex1, hex2⟩
        all_goals try (exfalso; omega)
        all_goals
          go_wp2_with (first
            | (at_builtin
               refine wpList_append_own _ rfl _ _ 22 rfl wo.heap.size 3 i0 (.int .i64 0) 1 8 Try.underlying22 hi hz0 hz1 hz2 rfl (by decide) (.slice none 0 0) 0 [] rfl (World.ownsRow_nil _ _ _ _) ⟨wo.heap.size, 0, none⟩ 1 1 [.int .i64 65] rfl rfl (cell_one_new _ _ _) (fun x hx => by simp at hx; subst hx; rfl) (by unfold maxLen; omega) (by omega) (by simp) ?_
               intro vy wy hown' hgrow3 hnil3
               have Y : Aside (wy.ownsRow wo.heap.size 3 1 vy 1 (ints (65 :: (m.take 0).map kindI)) ∧ Below wo.heap.size wo wy) := ⟨hown', Below.grown ((Below.refl _ _).alloc (Nat.le_refl _) _) hgrow3 (by simp) (fun j hj => by simp [Value.ownBlock] at hj)⟩
               clear hown' hgrow3 hnil3))
          have hszy := Y.out.2.size
          have HBy := aside (HB.out.trans (Y.out.2.mono hszb))
          have IGy := Lib.hid (IG.out.below Y.out.2 (Nat.le_refl _))
          have hszy2 := HBy.out.size
          go_loopw [7, 8] (fun vo i wz => ∃ j : Nat, i = .int .i64 j ∧ j ≤ p2 ∧ Aside (wz.ownsRow wo.heap.size 3 1 vo (j + 1) (ints (65 :: (m.take j).map kindI)) ∧ Below wo.heap.size wo wz)) (fun _ i _ => p2 - (intOf i).toNat)
          case atStart => exact ⟨0, rfl, by omega, Y.out⟩
          case round =>
            obtain ⟨j, rfl, hj, HX2⟩ := hrel
            by_cases hlt2 : j < p2
            · first
                | (exfalso; omega)
                | (have d0 := HC2.out j (by omega)
                   rw [← HB.out.cell (p := ⟨b2, off2 + j, none⟩) (World.block_lt_of_cell? _ _ d0)] at d0
                   rw [← HX2.out.2.cell (p := ⟨b2, off2 + j, none⟩) (World.block_lt_of_cell? _ _ d0)] at d0
                   have hxb := HBM.out j (by omega)
                   have hgs := kinds_snoc m j (by omega)
                   obtain ⟨x, hx⟩ : ∃ x, m.getD j 0 = x := ⟨_, rfl⟩
                   rw [hx] at d0 hxb hgs
                   obtain ⟨hx0, hx1⟩ := hxb
                   have hszw := HX2.out.2.size
                   have HO := Lib.hid HX2.out.1
                   have HGS := Lib.hid hgs
                   have hkl : j < m.length := by omega
                   have hk8 : j < 8 := by omega
                   clear hx hgs
                   obtain ⟨gx, hgx⟩ : ∃ gx, kindI x = gx := ⟨_, rfl⟩
                   have CG := fun W : World => kind_any x W hx0 hx1
                   rw [hgx] at CG HGS
                   clear hgx
                   go_wp2_with fail
                   refine (CG _).mono ?_
                   rintro e w1 ⟨rfl, b1⟩
                   have O1 := Lib.hid (own_below HO.out b1 (Nat.le_refl _))
                   have B1 := aside (HX2.out.2.trans (b1.mono hszw))
                   have hsz1 := B1.out.size
                   clear b1
                   go_wp2_with (first
                     | (at_builtin
                        refine wpList_append_own _ rfl (.tmp 43) (.tmp 49) 22 rfl wo.heap.size 3 i0 (.int .i64 0) 1 8 Try.underlying22 hi hz0 hz1 hz2 rfl (by decide) _ _ _ rfl (O1.out.alloc _) ⟨w1.heap.size, 0, none⟩ 1 1 [.int .i64 gx] rfl rfl (cell_one_new _ _ _) (fun x hx => by simp at hx; subst hx; rfl) (by unfold maxLen; omega) (by omega) (by simp; omega) ?_
                        intro v' w3 hown' hgrow3 hnil3
                        have X : Aside (w3.ownsRow wo.heap.size 3 1 v' (j + 1 + 1) (ints (65 :: (m.take (j + 1)).map kindI)) ∧ Below wo.heap.size wo w3) := ⟨by rw [HGS.out, ← List.cons_append, ints_append]; exact hown', Below.grown (B1.out.alloc (by omega) _) hgrow3 (by simp; omega) (fun j hj => by have := (O1.out.lt _ hj).1; omega)⟩
                        clear hown' hgrow3 hnil3))
                   go_roundw
                   case rel => exact ⟨j + 1, by go_num, by omega, X⟩
                   case measure => simp [intOf]; omega)
            · obtain rfl : j = p2 := by omega
              have hex2 : m.length ≤ j ∨ (j < m.length ∧ 8 ≤ j) := by
                have := HPM2.out
                omega
              have hmay2 : ∀ c ∈ (m.take j).map kindI, mayB c = true := kinds_may _
              have hlen2 : ((m.take j).map kindI).length = j := by simp; omega
              have ho2 := HX2.out.1
              have IGz := Lib.hid (IG.out.below HX2.out.2 (Nat.le_refl _))
              have HBz := aside (HB.out.trans (HX2.out.2.mono hszb))
              have hszz := HBz.out.size
              obtain ⟨K, hK⟩ : ∃ K, (m.take j).map kindI = K := ⟨_, rfl⟩
              rw [hK] at hlen2 ho2 hmay2
              rw [show j + 1 = (65 :: K).length by simp [hlen2]] at ho2
              have IY := Lib.hid (IsInts.of_own ho2)
              have HMAY2 := Lib.hid hmay2
              have HLK := Lib.hid hlen2
              clear hK hlen2 ho2 hmay2 HX2
              rcases hex2 with hex2 | ⟨hex21, hex22⟩
              all_goals try (exfalso; omega)
              all_goals
                have hofs : ofI 65 = 0 := by decide +kernel
                have hgl := kn_last G
                have hjG := joinL_len G
                have hjK := joinL_len (65 :: K)
                have htwo : (G = [] ∨ ofI (G.getLastD 0) ≠ 7) → pieces (toText G ++ toText (65 :: K)) = pieces (toText G) ++ pieces (toText (65 :: K)) := by
                  intro hx
                  have h := pieces_two G K 65 (by
                    intro d hd
                    rcases List.mem_append.1 hd with hd | hd
                    · exact HMAY.out d hd
                    · rcases List.mem_cons.1 hd with rfl | hd
                      · decide
                      · exact HMAY2.out d hd) hofs hx
                  rw [toText_app] at h
                  exact h
                have CJ1 := Lib.hid (fun (W : World) (v : Value) (h : IsInts W v G) => rjoin_any G v W h (by rw [HLG.out]; omega))
                have CJ2 := Lib.hid (fun (W : World) (v : Value) (h : IsInts W v (65 :: K)) => rjoin_any (65 :: K) v W h (by rw [List.length_cons, HLK.out]; omega))
                have hs1 : (toText G).size ≤ 40 := by show (joinL G).toArray.size ≤ _; rw [List.size_toArray]; rw [HLG.out] at hjG; omega
                have hs2 : (toText (65 :: K)).size ≤ 40 := by show (joinL (65 :: K)).toArray.size ≤ _; rw [List.size_toArray]; rw [List.length_cons, HLK.out] at hjK; omega
                have hp1 := pieces_len (toText G)
                have hp2 := pieces_len (toText (65 :: K))
                have hc1 := clen_le (toText G)
                have hc2 := clen_le (toText (65 :: K))
                obtain ⟨jx, hjx⟩ : ∃ jx, toText G = jx := ⟨_, rfl⟩
                obtain ⟨jy, hjy⟩ : ∃ jy, toText (65 :: K) = jy := ⟨_, rfl⟩
                rw [hjx] at htwo hs1 hp1 hc1
                rw [hjy] at htwo hs2 hp2 hc2
                rw [show (⟨(joinL G).toArray⟩ : ByteArray) = jx from hjx] at CJ1
                rw [show (⟨(joinL (65 :: K)).toArray⟩ : ByteArray) = jy from hjy] at CJ2
                have hs3 : (jx ++ jy).size ≤ 100 := by rw [ByteArray.size_append]; omega
                have CS1 := Lib.hid (fun W : World => csplit_any jx W (by omega))
                have CS2 := Lib.hid (fun W : World => csplit_any jy W (by omega))
                have CS3 := fun W : World => csplit_any (jx ++ jy) W (by omega)
                have hp3 := pieces_len (jx ++ jy)
                rw [← hp1] at CS1 hc1
                rw [← hp2] at CS2 hc2
                rw [← hp3] at CS3
                obtain ⟨P1, hP1⟩ : ∃ P1, pieces jx = P1 := ⟨_, rfl⟩
                obtain ⟨P2, hP2⟩ : ∃ P2, pieces jy = P2 := ⟨_, rfl⟩
                rw [hP1] at CS1 hc1 htwo
                rw [hP2] at CS2 hc2 htwo
                have HTWO := Lib.hid htwo
                clear htwo hjx hjy hP1 hP2 hp1 hp2 hp3 hjG hjK
                by_cases hk0 : k = 0
                · first
                  | (exfalso; omega)
                  | (subst hk0
                     have hxx : G = [] ∨ ofI (G.getLastD 0) ≠ 7 := .inl (List.eq_nil_of_length_eq_zero HLG.out)
                     rw [HTWO.out hxx] at CS3
                     have CS3 := Lib.hid CS3
                     clear hgl
                     go_wp2_with fail
                     refine (CJ1.out _ _ IGz.out).mono ?_
                     rintro e x1 ⟨rfl, b1⟩
                     have IY1 := Lib.hid (IY.out.below b1 (Nat.le_refl _))
                     have B1 := aside (HBz.out.trans (b1.mono hszz))
                     clear b1
                     go_wp2_with fail
                     refine (CJ2.out _ _ IY1.out).mono ?_
                     rintro e x2 ⟨rfl, b2⟩
                     have B2 := aside (B1.out.trans (b2.mono B1.out.size))
                     clear b2 IY1
                     go_wp2_with fail
                     refine (CS1.out x2).mono ?_
                     rintro e x3 ⟨v3, rfl, o3, b3⟩
                     have O3 := Lib.hid o3
                     have B3 := aside (B2.out.trans (b3.mono B2.out.size))
                     have hsz3 := B3.out.size
                     clear o3 b3
                     go_wp2_with (first
                       | (at_builtin
                          refine wpList_append_row1 _ rfl _ _ 30 rfl 9 iS (.string ⟨#[]⟩) 16 Try.underlying30 hSi hSz0 hSz1 hSz2 rfl w.heap.size _ (.slice none 0 0) 0 [] rfl (World.ownsRow_nil _ _ _ _) _ P1.length (strs P1) rfl (strs_length P1) O3.out (strs_one P1) (by omega) (by omega) hsz3 ?_
                          intro v4 x4 hown4 hg4
                          have B4 := aside (Below.grown B3.out hg4 hsz3 (fun j hj => by simp [Value.ownBlock] at hj))
                          have hsz4 := B4.out.size
                          have O4 : Hid (x4.ownsRow w.heap.size 9 1 v4 P1.length (strs P1)) := by have h := hown4; rw [Nat.zero_add, List.nil_append] at h; exact h
                          clear hown4 hg4))
                     refine (CS2.out x4).mono ?_
                     rintro e x5 ⟨v5, rfl, o5, b5⟩
                     have O5 := Lib.hid o5
                     have O45 := Lib.hid (own_below O4.out b5 (Nat.le_refl _))
                     have B5 := aside (B4.out.trans (b5.mono B4.out.size))
                     have hsz5 := B5.out.size
                     clear o5 b5
                     go_wp2_with (first
                       | (at_builtin
                          refine wpList_append_row1 _ rfl _ _ 30 rfl 9 iS (.string ⟨#[]⟩) 16 Try.underlying30 hSi hSz0 hSz1 hSz2 rfl w.heap.size _ _ P1.length _ rfl O45.out _ P2.length (strs P2) rfl (strs_length P2) O5.out (strs_one P2) (by omega) (by omega) hsz5 ?_
                          intro v6 x6 hown6 hg6
                          have B6 := aside (Below.grown B5.out hg6 hsz5 (fun j hj => (O45.out.lt _ hj).1))
                          have hsz6 := B6.out.size
                          have O6 : Hid (x6.ownsRow w.heap.size 9 1 v6 (P1 ++ P2).length (strs (P1 ++ P2))) := by
                            have h := hown6
                            rw [← strs_append] at h
                            show World.ownsRow _ _ _ _ _ _ _
                            rw [List.length_append]
                            exact h
                          clear hown6 hg6))
                     refine (CS3.out x6).mono ?_
                     rintro e x7 ⟨v7, rfl, o7, b7⟩
                     have I7 := Lib.hid (IsStrs.of_own o7)
                     have I6 := Lib.hid (IsStrs.of_own (own_below O6.out b7 (Nat.le_refl _)))
                     have B7 := aside (B6.out.trans (b7.mono B6.out.size))
                     clear o7 b7
                     go_wp2_with fail
                     refine (texts_any _ _ _ _ _ I7.out I6.out (by rw [List.length_append]; omega) (by rw [List.length_append]; omega)).mono ?_
                     rintro e x8 ⟨rfl, n8, rfl⟩
                     rw [decide_eq_true rfl]
                     have B8 := aside (below_drewN B7.out n8)
                     generalize x7.drewN n8 = x8 at B8 ⊢
                     go_wp2_with fail
                     refine (lives3 _).mono ?_
                     rintro e x9 ⟨rfl, b9⟩
                     go_wp2
                     go_ret
                     exact ⟨rfl, B8.out.trans (b9.mono B8.out.size)⟩)
                · first
                  | (exfalso; omega)
                  | (obtain ⟨k', rfl⟩ : ∃ k', k = k' + 1 := ⟨k - 1, by omega⟩
                     have hgl2 := hgl k' HLG.out
                     obtain ⟨A6, c6, he6, hc61, hc62, hA6⟩ := ints_cases IGz.out
                     injection he6 with he1 he2 he3
                     subst he1
                     subst he3
                     clear he2
                     have hgn : 0 < G.length := by rw [HLG.out]; omega
                     rcases hA6 with ⟨b6, off6, rfl, HC6⟩ | ⟨_, hn6⟩
                     all_goals try (exfalso; omega)
                     have d6 := HC6.out k' (by rw [HLG.out]; omega)
                     obtain ⟨g, hg⟩ : ∃ g, G.getD k' 0 = g := ⟨_, rfl⟩
                     rw [hg] at d6 hgl2
                     have CO := Lib.hid (fun W : World => rof_any g W)
                     obtain ⟨og, hog⟩ : ∃ og, ofI g = og := ⟨_, rfl⟩
                     rw [hgl2, hog] at HTWO
                     rw [hog] at CO
                     have hkd : decide (0 < k' + 1) = true := by simp
                     have hkd2 : decide ((0 : Int) < (k' : Int) + 1) = true := decide_eq_true (by omega)
                     have hw1 : IntKind.i64.wrap ((k' : Int) + 1 - 1) = (k' : Int) := by rw [show (k' : Int) + 1 - 1 = k' by omega]; exact wrap_in _ (by omega) (by omega)
                     have hw2 : IntKind.i64.wrap (k' : Int) = (k' : Int) := wrap_in _ (by omega) (by omega)
                     have hmx : max (k' : Int) 0 = (k' : Int) := by omega
                     have hmx2 : max ((k' : Int) + 1 - 1) 0 = (k' : Int) := by omega
                     have hi0 : (0 : Int) ≤ (k' : Int) := by omega
                     have hi1 : (k' : Int) < (k' : Int) + 1 := by omega
                     clear hg hog hgl hgl2
                     go_wp2_with fail
                     refine (CO.out _).mono ?_
                     rintro e x0 ⟨rfl, b0⟩
                     have IG0 := Lib.hid (IGz.out.below b0 (Nat.le_refl _))
                     have IY0 := Lib.hid (IY.out.below b0 (Nat.le_refl _))
                     have HB0 := aside (HBz.out.trans (b0.mono hszz))
                     have hsz0 := HB0.out.size
                     clear b0
                     by_cases h7 : og = 7
                     · subst h7
                       go_wp2_with fail
                       refine (lives3 _).mono ?_
                       rintro e x9 ⟨rfl, b9⟩
                       go_wp2
                       go_ret
                       exact ⟨rfl, HB0.out.trans (b9.mono hsz0)⟩
                     · have h7b : (og == 7) = false := beq_eq_false_iff_ne.2 h7
                       rw [HTWO.out (.inr h7)] at CS3
                       have CS3 := Lib.hid CS3
                       clear h7
                       go_wp2_with fail
                       refine (CJ1.out _ _ IG0.out).mono ?_
                       rintro e x1 ⟨rfl, b1⟩
                       have IY1 := Lib.hid (IY0.out.below b1 (Nat.le_refl _))
                       have B1 := aside (HB0.out.trans (b1.mono hsz0))
                       clear b1
                       go_wp2_with fail
                       refine (CJ2.out _ _ IY1.out).mono ?_
                       rintro e x2 ⟨rfl, b2⟩
                       have B2 := aside (B1.out.trans (b2.mono B1.out.size))
                       clear b2 IY1
                       go_wp2_with fail
                       refine (CS1.out x2).mono ?_
                       rintro e x3 ⟨v3, rfl, o3, b3⟩
                       have O3 := Lib.hid o3
                       have B3 := aside (B2.out.trans (b3.mono B2.out.size))
                       have hsz3 := B3.out.size
                       clear o3 b3
                       go_wp2_with (first
                         | (at_builtin
                            refine wpList_append_row1 _ rfl _ _ 30 rfl 9 iS (.string ⟨#[]⟩) 16 Try.underlying30 hSi hSz0 hSz1 hSz2 rfl w.heap.size _ (.slice none 0 0) 0 [] rfl (World.ownsRow_nil _ _ _ _) _ P1.length (strs P1) rfl (strs_length P1) O3.out (strs_one P1) (by omega) (by omega) hsz3 ?_
                            intro v4 x4 hown4 hg4
                            have B4 := aside (Below.grown B3.out hg4 hsz3 (fun j hj => by simp [Value.ownBlock] at hj))
                            have hsz4 := B4.out.size
                            have O4 : Hid (x4.ownsRow w.heap.size 9 1 v4 P1.length (strs P1)) := by have h := hown4; rw [Nat.zero_add, List.nil_append] at h; exact h
                            clear hown4 hg4))
                       refine (CS2.out x4).mono ?_
                       rintro e x5 ⟨v5, rfl, o5, b5⟩
                       have O5 := Lib.hid o5
                       have O45 := Lib.hid (own_below O4.out b5 (Nat.le_refl _))
                       have B5 := aside (B4.out.trans (b5.mono B4.out.size))
                       have hsz5 := B5.out.size
                       clear o5 b5
                       go_wp2_with (first
                         | (at_builtin
                            refine wpList_append_row1 _ rfl _ _ 30 rfl 9 iS (.string ⟨#[]⟩) 16 Try.underlying30 hSi hSz0 hSz1 hSz2 rfl w.heap.size _ _ P1.length _ rfl O45.out _ P2.length (strs P2) rfl (strs_length P2) O5.out (strs_one P2) (by omega) (by omega) hsz5 ?_
                            intro v6 x6 hown6 hg6
                            have B6 := aside (Below.grown B5.out hg6 hsz5 (fun j hj => (O45.out.lt _ hj).1))
                            have hsz6 := B6.out.size
                            have O6 : Hid (x6.ownsRow w.heap.size 9 1 v6 (P1 ++ P2).length (strs (P1 ++ P2))) := by
                              have h := hown6
                              rw [← strs_append] at h
                              show World.ownsRow _ _ _ _ _ _ _
                              rw [List.length_append]
                              exact h
                            clear hown6 hg6))
                       refine (CS3.out x6).mono ?_
                       rintro e x7 ⟨v7, rfl, o7, b7⟩
                       have I7 := Lib.hid (IsStrs.of_own o7)
                       have I6 := Lib.hid (IsStrs.of_own (own_below O6.out b7 (Nat.le_refl _)))
                       have B7 := aside (B6.out.trans (b7.mono B6.out.size))
                       clear o7 b7
                       go_wp2_with fail
                       refine (texts_any _ _ _ _ _ I7.out I6.out (by rw [List.length_append]; omega) (by rw [List.length_append]; omega)).mono ?_
                       rintro e x8 ⟨rfl, n8, rfl⟩
                       rw [decide_eq_true rfl]
                       have B8 := aside (below_drewN B7.out n8)
                       generalize x7.drewN n8 = x8 at B8 ⊢
                       go_wp2_with fail
                       refine (lives3 _).mono ?_
                       rintro e x9 ⟨rfl, b9⟩
                       go_wp2
                       go_ret
                       exact ⟨rfl, B8.out.trans (b9.mono B8.out.size)⟩)

end Go.Proofs.Ytaocnnebfnlgiaa
