/-
  The walk of ClusterPlain.
-/
import Derived.Test.YtaocnnebfnlgiaaPlainG
import Derived.Test.YtaocnnebfnlgiaaJoinB
namespace Go.Proofs.Ytaocnnebfnlgiaa
open Go.RowKit

theorem items_cls (l : List Int) (k : Nat) : ∀ c ∈ itemsL l k, ofI c = 0 ∨ ofI c = 4 := by
  intro c hc
  obtain ⟨j, _, rfl⟩ := List.mem_map.1 hc
  rcases item_cls j (l.getD j 0) with h | h
  · exact .inl h
  · exact .inr h.1
theorem items_bd2 (l : List Int) (k : Nat) : ∀ c ∈ itemsL l k, 0 ≤ c ∧ c ≤ 1000 := by
  intro c hc
  obtain ⟨j, _, rfl⟩ := List.mem_map.1 hc
  exact item_bd j _
theorem items_may (l : List Int) (k : Nat) : ∀ c ∈ itemsL l k, mayB c = true := by
  intro c hc
  have := items_bd2 l k c hc
  unfold mayB
  exact decide_eq_true (by omega)
theorem items_first (l : List Int) (k : Nat) : itemsL l k = [] ∨ ofI ((itemsL l k).getD 0 0) = 0 := by
  cases k with
  | zero => exact .inl rfl
  | succ k =>
    right
    rw [itemsL_get l (k + 1) 0 (by omega)]
    rcases item_cls 0 (l.getD 0 0) with h | h
    · exact h
    · omega
theorem item_zero (j : Nat) (x : Int) (h : ¬ (25 < aroundI x 60 ∧ 0 < j)) : itemI j x = 65 + aroundI x 60 % 26 ∧ ofI (itemI j x) = 0 := by
  have hb := aroundI_bd x 60 (by omega)
  have H1 : ∀ k : Fin 26, ofI (65 + (k.val : Int)) = 0 := by decide +kernel
  unfold itemI
  rw [if_neg h]
  refine ⟨rfl, ?_⟩
  obtain ⟨q, hq⟩ : ∃ q : Nat, aroundI x 60 = (q : Int) := ⟨(aroundI x 60).toNat, by omega⟩
  rw [hq]
  have := H1 ⟨q % 26, by omega⟩
  have e : ((q % 26 : Nat) : Int) = (q : Int) % 26 := by omega
  simp only [e] at this
  exact this
theorem item_four (j : Nat) (x : Int) (h : 25 < aroundI x 60 ∧ 0 < j) : itemI j x = 768 + aroundI x 60 ∧ ofI (itemI j x) = 4 := by
  have hb := aroundI_bd x 60 (by omega)
  have H2 : ∀ k : Fin 60, 25 < k.val → ofI (768 + (k.val : Int)) = 4 := by decide +kernel
  unfold itemI
  rw [if_pos h]
  refine ⟨rfl, ?_⟩
  obtain ⟨q, hq⟩ : ∃ q : Nat, aroundI x 60 = (q : Int) := ⟨(aroundI x 60).toNat, by omega⟩
  rw [hq] at h hb ⊢
  exact H2 ⟨q, by omega⟩ (by show 25 < q; omega)

theorem piecesK_get' (s : ByteArray) (l : List Int) (k j : Nat) (h : j < k) : (piecesK s l k).getD j ⟨#[]⟩ = s.extract (l.getD j 0).toNat (l.getD (j + 1) 0).toNat := by
  unfold piecesK
  rw [List.getD_eq_getElem?_getD, List.getElem?_map, List.getElem?_range h]
  rfl

set_option maxRecDepth 100000 in
set_option maxHeartbeats 4000000 in
theorem clusterPlain_walk (v0 : Value) (l : List Int) (w : World) (hv : IsInts w v0 l) (hb : ∀ x ∈ l, -9223372036854775808 ≤ x ∧ x ≤ 9223372036854775807) (hl : l.length ≤ 9223372036854775807) :
    Calls Try.prog 12 #[v0] w fun e w' => e = .returned (.bool true) ∧ Below w.heap.size w w' := by
  obtain ⟨i0, hi, hz0, hz1, hz2⟩ := info_parts info_int5
  have HBD := Lib.hid (mem_bd3 hb)
  obtain ⟨A, ca, rfl, hlc, hcm, hA⟩ := ints_cases hv
  obtain ⟨p, hp12, hpl, hpm⟩ : ∃ p, p ≤ 12 ∧ p ≤ l.length ∧ (p = 12 ∨ p = l.length) := ⟨min l.length 12, by omega, by omega, by omega⟩
  have HPM := Lib.hid hpm
  clear hb hv hpm
  rcases hA with ⟨b, off, rfl, HC⟩ | ⟨_, hn⟩
  all_goals
    go_enter Try.func12, Try.ntmps12
    go_wp2_with fail
    go_loopw [3, 4, 5] (fun vo vn i wr => ∃ k : Nat, i = .int .i64 k ∧ k ≤ p ∧ vn = .int .i64 (count0 (itemsL l k) : Int) ∧ Aside (wr.ownsRow w.heap.size 3 1 vo k (ints (itemsL l k)) ∧ Below w.heap.size w wr)) (fun _ _ i _ => p - (intOf i).toNat)
    case atStart => exact ⟨0, rfl, by omega, rfl, World.ownsRow_nil _ _ _ _, Below.refl _ _⟩
    case round =>
      obtain ⟨k, rfl, hk, rfl, HX⟩ := hrel
      by_cases hlt : k < p
      · first
          | (exfalso; omega)
          | (have d0 := HC.out k (by omega)
             rw [← HX.out.2.cell (p := ⟨b, off + k, none⟩) (World.block_lt_of_cell? _ _ d0)] at d0
             have hxb := HBD.out k (by omega)
             have hgs := itemsL_succ l k
             have hcn := count0_snoc (itemsL l k) (itemI k (l.getD k 0))
             rw [← hgs] at hcn
             have hcl := count0_le (itemsL l k)
             rw [itemsL_len] at hcl
             obtain ⟨x, hx⟩ : ∃ x, l.getD k 0 = x := ⟨_, rfl⟩
             rw [hx] at d0 hxb hgs hcn
             obtain ⟨hx0, hx1⟩ := hxb
             have hi4 := item_four k x
             have hiz := item_zero k x
             obtain ⟨it, hit⟩ : ∃ it, itemI k x = it := ⟨_, rfl⟩
             rw [hit] at hi4 hiz hgs hcn
             obtain ⟨cn, hcnn⟩ : ∃ cn, count0 (itemsL l k) = cn := ⟨_, rfl⟩
             rw [hcnn] at hcn hcl ⊢
             obtain ⟨a, ha, ha60⟩ : ∃ a : Nat, aroundI x 60 = (a : Int) ∧ a < 60 := ⟨(aroundI x 60).toNat, by have := aroundI_bd x 60 (by omega); omega, by have := aroundI_bd x 60 (by omega); omega⟩
             have CX := fun W : World => around_any x 60 W hx0 hx1 (by omega) (by omega)
             rw [ha] at CX hi4 hiz
             have HGS := Lib.hid hgs
             have HCN := Lib.hid hcn
             have HO := Lib.hid HX.out.1
             have HB := aside HX.out.2
             have hszw := HX.out.2.size
             have hkl : k < l.length := by omega
             have hk12 : k < 12 := by omega
             have HI4 := Lib.hid hi4
             have HIZ := Lib.hid hiz
             clear hx hgs hcn hit hcnn ha hi4 hiz
             go_wp2_with fail
             refine (CX wr).mono ?_
             rintro e w' ⟨rfl, rfl⟩
             by_cases h25 : 25 < a
             · have hd1 : decide (25 < a) = true := decide_eq_true h25
               have hd2 : decide ((25 : Int) < (a : Int)) = true := decide_eq_true (by omega)
               by_cases hk0 : 0 < k
               · have hd3 : decide (0 < k) = true := decide_eq_true hk0
                 have hd4 : decide ((0 : Int) < (k : Int)) = true := decide_eq_true (by omega)
                 obtain ⟨hi1, hi2⟩ := HI4.out ⟨by omega, hk0⟩
                 have HI1 := Lib.hid hi1
                 have HNN : Hid (Value.int .i64 (cn : Int) = .int .i64 (count0 (itemsL l (k + 1)) : Int)) := by show _ = _; rw [HCN.out, hi2, if_neg (by decide)]; rfl
                 clear hi1 hi2
                 go_wp2_with (first
                   | (at_builtin
                      refine wpList_append_own _ rfl _ _ 22 rfl w.heap.size 3 i0 (.int .i64 0) 1 8 Try.underlying22 hi hz0 hz1 hz2 rfl (by decide) _ _ _ rfl (HO.out.alloc _) ⟨wr.heap.size, 0, none⟩ 1 1 [.int .i64 (768 + (a : Int))] rfl rfl (cell_one_new _ _ _) (fun x hx => by simp at hx; subst hx; rfl) (by unfold maxLen; omega) (by omega) (by simp; omega) ?_
                      intro v' w3 hown' hgrow3 hnil3
                      have X : Aside (w3.ownsRow w.heap.size 3 1 v' (k + 1) (ints (itemsL l (k + 1))) ∧ Below w.heap.size w w3) := ⟨by rw [HGS.out, HI1.out, ints_append]; exact hown', Below.grown (HB.out.alloc hszw _) hgrow3 (by simp; omega) (fun j hj => by have := (HO.out.lt _ hj).1; omega)⟩
                      clear hown' hgrow3 hnil3))
                 go_roundw
                 case rel => exact ⟨k + 1, by go_num, by omega, HNN.out, X⟩
                 case measure => simp [intOf]; omega
               · have hd3 : decide (0 < k) = false := decide_eq_false hk0
                 have hd4 : decide ((0 : Int) < (k : Int)) = false := decide_eq_false (by omega)
                 obtain ⟨hi1, hi2⟩ := HIZ.out (fun h => hk0 h.2)
                 have HI1 := Lib.hid hi1
                 have HNN : Hid (Value.int .i64 ((cn : Int) + 1) = .int .i64 (count0 (itemsL l (k + 1)) : Int)) := by show _ = _; rw [HCN.out, hi2, if_pos rfl]; rfl
                 have hmod : (0 : Int) ≤ (a : Int) := by omega
                 clear hi1 hi2
                 go_wp2_with (first
                   | (at_builtin
                      refine wpList_append_own _ rfl _ _ 22 rfl w.heap.size 3 i0 (.int .i64 0) 1 8 Try.underlying22 hi hz0 hz1 hz2 rfl (by decide) _ _ _ rfl (HO.out.alloc _) ⟨wr.heap.size, 0, none⟩ 1 1 [.int .i64 (65 + (a : Int) % 26)] rfl rfl (cell_one_new _ _ _) (fun x hx => by simp at hx; subst hx; rfl) (by unfold maxLen; omega) (by omega) (by simp; omega) ?_
                      intro v' w3 hown' hgrow3 hnil3
                      have X : Aside (w3.ownsRow w.heap.size 3 1 v' (k + 1) (ints (itemsL l (k + 1))) ∧ Below w.heap.size w w3) := ⟨by rw [HGS.out, HI1.out, ints_append]; exact hown', Below.grown (HB.out.alloc hszw _) hgrow3 (by simp; omega) (fun j hj => by have := (HO.out.lt _ hj).1; omega)⟩
                      clear hown' hgrow3 hnil3))
                 go_roundw
                 case rel => exact ⟨k + 1, by go_num, by omega, HNN.out, X⟩
                 case measure => simp [intOf]; omega
             · have hd1 : decide (25 < a) = false := decide_eq_false h25
               have hd2 : decide ((25 : Int) < (a : Int)) = false := decide_eq_false (by omega)
               obtain ⟨hi1, hi2⟩ := HIZ.out (fun h => h25 (by omega))
               have HI1 := Lib.hid hi1
               have HNN : Hid (Value.int .i64 ((cn : Int) + 1) = .int .i64 (count0 (itemsL l (k + 1)) : Int)) := by show _ = _; rw [HCN.out, hi2, if_pos rfl]; rfl
               have hmod : (0 : Int) ≤ (a : Int) := by omega
               clear hi1 hi2
               go_wp2_with (first
                 | (at_builtin
                    refine wpList_append_own _ rfl _ _ 22 rfl w.heap.size 3 i0 (.int .i64 0) 1 8 Try.underlying22 hi hz0 hz1 hz2 rfl (by decide) _ _ _ rfl (HO.out.alloc _) ⟨wr.heap.size, 0, none⟩ 1 1 [.int .i64 (65 + (a : Int) % 26)] rfl rfl (cell_one_new _ _ _) (fun x hx => by simp at hx; subst hx; rfl) (by unfold maxLen; omega) (by omega) (by simp; omega) ?_
                    intro v' w3 hown' hgrow3 hnil3
                    have X : Aside (w3.ownsRow w.heap.size 3 1 v' (k + 1) (ints (itemsL l (k + 1))) ∧ Below w.heap.size w w3) := ⟨by rw [HGS.out, HI1.out, ints_append]; exact hown', Below.grown (HB.out.alloc hszw _) hgrow3 (by simp; omega) (fun j hj => by have := (HO.out.lt _ hj).1; omega)⟩
                    clear hown' hgrow3 hnil3))
               go_roundw
               case rel => exact ⟨k + 1, by go_num, by omega, HNN.out, X⟩
               case measure => simp [intOf]; omega)
      · obtain rfl : k = p := by omega
        have hex : l.length ≤ k ∨ (k < l.length ∧ 12 ≤ k) := by
          have := HPM.out
          omega
        have hlen := itemsL_len l k
        have hmay := items_may l k
        have hbd := items_bd2 l k
        obtain ⟨hcnt, hpc⟩ := plain_pieces (itemsL l k) (items_first l k) (items_cls l k) hmay
        have hcl := count0_le (itemsL l k)
        rw [hlen] at hcl
        have ho := HX.out.1
        have HB := aside HX.out.2
        have hszb := HX.out.2.size
        have hjl := joinL_len (itemsL l k)
        have hpl := pieces_len (toText (itemsL l k))
        have hpk : pieces (toText (itemsL l k)) = piecesK (toText (itemsL l k)) (cstarts (toText (itemsL l k))) (clen (toText (itemsL l k))) := rfl
        obtain ⟨cn, hcn⟩ : ∃ cn, count0 (itemsL l k) = cn := ⟨_, rfl⟩
        rw [hcn] at hcnt hcl ⊢
        obtain ⟨G, hG⟩ : ∃ G, itemsL l k = G := ⟨_, rfl⟩
        rw [hG] at hlen ho hmay hbd hjl hcnt hpc hpl hpk
        rw [← hlen] at ho
        have IG := Lib.hid (IsInts.of_own ho)
        have CJ := Lib.hid (fun (W : World) (v : Value) (h : IsInts W v G) => ujoin_any G v W h (by omega))
        have hs1 : (toText G).size ≤ 48 := by show (joinL G).toArray.size ≤ _; rw [List.size_toArray]; omega
        obtain ⟨T, hT⟩ : ∃ T, toText G = T := ⟨_, rfl⟩
        rw [hT] at hcnt hpc hpl hpk hs1
        rw [show (⟨(joinL G).toArray⟩ : ByteArray) = T from hT] at CJ
        have CS := fun W : World => csplit_any T W (by omega)
        rw [← hpl] at CS hpk
        have hpz : ∀ j, j < (pieces T).length → ((pieces T).getD j ⟨#[]⟩).size ≤ 48 := by
          intro j hj
          rw [hpk] at hj ⊢
          rw [piecesK_len] at hj
          rw [piecesK_get' _ _ _ _ hj, ByteArray.size_extract]
          omega
        have hpp : ∀ j, j < (pieces T).length → plainB (chars ((pieces T).getD j ⟨#[]⟩)) = true ∧ clen ((pieces T).getD j ⟨#[]⟩) = 1 := by
          intro j hj
          have e : (pieces T).getD j ⟨#[]⟩ = (pieces T)[j] := by simp [hj]
          rw [e]
          exact hpc _ (List.getElem_mem hj)
        obtain ⟨P, hP⟩ : ∃ P, pieces T = P := ⟨_, rfl⟩
        rw [hP] at CS hpz hpp hcnt
        have CS := Lib.hid CS
        have HPZ := Lib.hid hpz
        have HPP := Lib.hid hpp
        clear hG hlen ho hmay hbd hjl hpc hpl hpk hT hP hpz hpp HX hcn
        rcases hex with hex | ⟨hex1, hex2⟩
        all_goals try (exfalso; omega)
        all_goals
          go_wp2_with fail
          refine (CJ.out _ _ IG.out).mono ?_
          rintro e x1 ⟨rfl, b1⟩
          have B1 := aside (HB.out.trans (b1.mono hszb))
          clear b1
          go_wp2_with fail
          refine (CS.out x1).mono ?_
          rintro e x2 ⟨v2, rfl, o2, b2⟩
          have S2 := Lib.hid (IsStrs.of_own o2)
          have B2 := aside (B1.out.trans (b2.mono B1.out.size))
          clear o2 b2
          obtain ⟨A2, c2, rfl, hc21, hc22, hA2⟩ := strs_cases S2.out
          rcases hA2 with ⟨b2, off2, rfl, HC2⟩ | ⟨_, hn2⟩
          all_goals
            go_wp2_with fail
            obtain ⟨wo, rfl⟩ : ∃ wo : World, wo = wr := ⟨_, rfl⟩
            go_loopw [8] (fun i wz => ∃ q : Nat, i = .int .i64 q ∧ q ≤ cn ∧ Aside (Below x2.heap.size x2 wz)) (fun i _ => cn - (intOf i).toNat)
            case atStart => exact ⟨0, rfl, by omega, Below.refl _ _⟩
            case round =>
              obtain ⟨q, rfl, hq, HY⟩ := hrel
              by_cases hqc : q < cn
              · first
                  | (exfalso; omega)
                  | (have d0 := HC2.out q (by omega)
                     rw [← HY.out.cell (p := ⟨b2, off2 + q, none⟩) (World.block_lt_of_cell? _ _ d0)] at d0
                     obtain ⟨hp1, hp2⟩ := HPP.out q (by omega)
                     have hpz := HPZ.out q (by omega)
                     obtain ⟨E, hE⟩ : ∃ E, P.getD q ⟨#[]⟩ = E := ⟨_, rfl⟩
                     rw [hE] at d0 hp1 hp2 hpz
                     have CA := Lib.hid (fun W : World => uall_any E W (by omega))
                     have hce : ∀ j, j < (chars E).length → -9223372036854775808 ≤ (chars E).getD j 0 ∧ (chars E).getD j 0 ≤ 9223372036854775807 := by
                       intro j hj
                       have e : (chars E).getD j 0 = (chars E)[j] := by simp [hj]
                       rw [e]
                       have := charsFrom_bd E _ _ _ (List.getElem_mem hj)
                       omega
                     have CP := Lib.hid (fun (W : World) (v : Value) (h : IsInts W v (chars E)) => plain_any v (chars E) W h hce)
                     have CO := Lib.hid (fun W : World => cone_any E W (by omega))
                     rw [hp1] at CP
                     rw [hp2] at CO
                     clear hE hp1 hp2 hpz hce
                     go_wp2_with fail
                     refine (CA.out _).mono ?_
                     rintro e y1 ⟨vy, rfl, o1, b1⟩
                     have I1 := Lib.hid (IsInts.of_own o1)
                     have Y1 := aside (HY.out.trans (b1.mono HY.out.size))
                     rw [← b1.cell (p := ⟨b2, off2 + q, none⟩) (World.block_lt_of_cell? _ _ d0)] at d0
                     clear o1 b1
                     go_wp2_with fail
                     refine (CP.out _ _ I1.out).mono ?_
                     rintro e y2 ⟨rfl, b2'⟩
                     have Y2 := aside (Y1.out.trans (b2'.mono Y1.out.size))
                     rw [← b2'.cell (p := ⟨b2, off2 + q, none⟩) (World.block_lt_of_cell? _ _ d0)] at d0
                     clear b2'
                     go_wp2_with fail
                     refine (CO.out _).mono ?_
                     rintro e y3 ⟨rfl, b3⟩
                     have Y3 := aside (Y2.out.trans (b3.mono Y2.out.size))
                     clear b3 d0
                     go_wp2
                     go_roundw
                     case rel => exact ⟨q + 1, by go_num, by omega, Y3⟩
                     case measure => simp [intOf]; omega)
              · obtain rfl : q = cn := by omega
                have Y := aside (B2.out.trans (HY.out.mono B2.out.size))
                have hysz := Y.out.size
                go_wp2_with fail
                refine (lives3 _).mono ?_
                rintro e w9 ⟨rfl, b9⟩
                go_wp2
                go_ret
                exact ⟨rfl, Y.out.trans (b9.mono hysz)⟩

end Go.Proofs.Ytaocnnebfnlgiaa
