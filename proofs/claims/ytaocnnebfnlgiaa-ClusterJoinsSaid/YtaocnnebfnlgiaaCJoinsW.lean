/-
  The walk of ClusterJoins.
-/
import Derived.Test.YtaocnnebfnlgiaaClu2
import Derived.Test.YtaocnnebfnlgiaaJoinR
import Derived.Test.YtaocnnebfnlgiaaKind
namespace Go.Proofs.Ytaocnnebfnlgiaa
open Go.RowKit

theorem joined_eq (l : List Int) (c : Int) : joinR (clsR l l.length) (ofI c) = joinedB l c := by
  unfold joinedB
  have h := rIs_join (clsR l l.length) (ofI c)
  rw [← h]
  unfold clsR
  rw [List.reverse_reverse, List.take_length]
theorem rjoined_B (l : List Int) (v : Value) (c : Int) (w : World) (hv : IsInts w v l) (hl : l.length ≤ 1000) :
    Calls Try.prog 18 #[v, .int .i64 c] w fun e w' => e = .returned (.bool (joinedB l c)) ∧ Below w.heap.size w w' := by
  have h := rjoined_any l v c w hv hl
  rw [joined_eq] at h
  exact h
theorem kinds_snoc (l : List Int) (k : Nat) (hk : k < l.length) : (l.take (k + 1)).map kindI = (l.take k).map kindI ++ [kindI (l.getD k 0)] := by
  rw [List.take_succ_eq_append_getElem hk, List.map_append]
  simp [hk]
theorem kinds_may (l : List Int) : ∀ c ∈ l.map kindI, mayB c = true := by
  intro c hc
  obtain ⟨n, _, rfl⟩ := List.mem_map.1 hc
  exact kindI_may n
theorem mem_bd3 {l : List Int} (hb : ∀ x ∈ l, -9223372036854775808 ≤ x ∧ x ≤ 9223372036854775807) : ∀ j, j < l.length → -9223372036854775808 ≤ l.getD j 0 ∧ l.getD j 0 ≤ 9223372036854775807 := by
  intro j hj
  have e : l.getD j 0 = l[j] := by simp [hj]
  rw [e]
  exact hb _ (List.getElem_mem hj)
theorem take_bd3 {l : List Int} (hb : ∀ j, j < l.length → -9223372036854775808 ≤ l.getD j 0 ∧ l.getD j 0 ≤ 9223372036854775807) (p : Nat) (hp : p ≤ l.length) : ∀ j, j < (l.take p).length → -9223372036854775808 ≤ (l.take p).getD j 0 ∧ (l.take p).getD j 0 ≤ 9223372036854775807 := by
  intro j hj
  have hl : (l.take p).length = p := by simp; omega
  have e : (l.take p).getD j 0 = l.getD j 0 := by
    rw [List.getD_eq_getElem?_getD, List.getD_eq_getElem?_getD, List.getElem?_take, if_pos (by omega)]
  rw [e]
  exact hb j (by omega)
theorem kinds_bd (l : List Int) : ∀ j, j < (l.map kindI).length → -9223372036854775808 ≤ (l.map kindI).getD j 0 ∧ (l.map kindI).getD j 0 ≤ 9223372036854775807 := by
  intro j hj
  have e : (l.map kindI).getD j 0 = (l.map kindI)[j] := by simp at hj; simp [hj]
  rw [e]
  have hm := List.getElem_mem hj
  obtain ⟨n, _, hn⟩ := List.mem_map.1 hm
  rw [← hn]
  have := kindI_bd n
  omega

/-- A list that came in: where it lies, or that it is empty. -/
theorem ints_cases {w : World} {v : Value} {l : List Int} (h : IsInts w v l) : ∃ A c, v = .slice A l.length c ∧ l.length ≤ c ∧ c ≤ 9223372036854775807 ∧
    ((∃ b off, A = some ⟨b, off, none⟩ ∧ Hid (∀ j, j < l.length → w.cell? ⟨b, off + j, none⟩ = some (.int .i64 (l.getD j 0)))) ∨ (A = A ∧ l.length ≤ 0)) := by
  obtain ⟨A, c, rfl, h1, h2, h3⟩ := h
  refine ⟨A, c, rfl, h1, h2, ?_⟩
  by_cases h0 : 0 < l.length
  · obtain ⟨b, off, rfl, hc⟩ := h3 h0
    exact .inl ⟨b, off, rfl, hc⟩
  · exact .inr ⟨rfl, by omega⟩

set_option maxRecDepth 100000 in
set_option maxHeartbeats 4000000 in
theorem clusterJoins_walk (v0 : Value) (l : List Int) (c : Int) (w : World) (hv : IsInts w v0 l) (hb : ∀ x ∈ l, -9223372036854775808 ≤ x ∧ x ≤ 9223372036854775807) (hl : l.length ≤ 9223372036854775807) (hc0 : -9223372036854775808 ≤ c) (hc1 : c ≤ 9223372036854775807) :
    Calls Try.prog 4 #[v0, .int .i64 c] w fun e w' => e = .returned (.bool true) ∧ Below w.heap.size w w' := by
  obtain ⟨i0, hi, hz0, hz1, hz2⟩ := info_parts info_int5
  have HV := Lib.hid hv
  have HBD := Lib.hid (mem_bd3 hb)
  obtain ⟨A, ca, rfl, hlc, hcm, hA⟩ := ints_cases hv
  have CK := Lib.hid (fun W : World => kind_any c W hc0 hc1)
  have hkb := kindI_bd c
  obtain ⟨kc, hkc⟩ : ∃ kc, kindI c = kc := ⟨_, rfl⟩
  rw [hkc] at CK hkb
  obtain ⟨hkb0, hkb1⟩ := hkb
  clear hb hv hkc
  rcases hA with ⟨b, off, rfl, HC⟩ | ⟨_, hn⟩
  all_goals
    go_enter Try.func4, Try.ntmps4
    go_wp2_with fail
    generalize hp : (min (l.length : Int) 8).toNat = p
    have hp8 : p ≤ 8 := by omega
    have hpl : p ≤ l.length := by omega
    clear hp
    go_loopw [6, 7] (fun vo i wr => ∃ k : Nat, i = .int .i64 k ∧ k ≤ p ∧ Aside (wr.ownsRow w.heap.size 3 1 vo k (ints ((l.take k).map kindI)) ∧ Below w.heap.size w wr)) (fun _ i _ => p - (intOf i).toNat)
    case atStart => exact ⟨0, rfl, by omega, World.ownsRow_nil _ _ _ _, Below.refl _ _⟩
    case round =>
      obtain ⟨k, rfl, hk, HX⟩ := hrel
      by_cases hlt : k < p
      · first
          | (exfalso; omega)
          | (have d0 := HC.out k (by omega)
             rw [← HX.out.2.cell (p := ⟨b, off + k, none⟩) (World.block_lt_of_cell? _ _ d0)] at d0
             have hxb := HBD.out k (by omega)
             have hgs := kinds_snoc l k (by omega)
             obtain ⟨x, hx⟩ : ∃ x, l.getD k 0 = x := ⟨_, rfl⟩
             rw [hx] at d0 hxb hgs
             obtain ⟨hx0, hx1⟩ := hxb
             have HGS := Lib.hid hgs
             have hszw := HX.out.2.size
             have HO := Lib.hid HX.out.1
             clear hx hgs
             obtain ⟨gx, hgx⟩ : ∃ gx, kindI x = gx := ⟨_, rfl⟩
             have CG := fun W : World => kind_any x W hx0 hx1
             rw [hgx] at CG HGS
             clear hgx
             go_wp2_with fail
             refine (CG wr).mono ?_
             rintro e w1 ⟨rfl, b1⟩
             have O1 := Lib.hid (own_below HO.out b1 (Nat.le_refl _))
             have B1 := aside (HX.out.2.trans (b1.mono hszw))
             have hsz1 := B1.out.size
             clear b1
             go_wp2_with (first
               | (at_builtin
                  refine wpList_append_own _ rfl (.tmp 20) (.tmp 26) 22 rfl w.heap.size 3 i0 (.int .i64 0) 1 8 Try.underlying22 hi hz0 hz1 hz2 rfl (by decide) _ _ _ rfl (O1.out.alloc _) ⟨w1.heap.size, 0, none⟩ 1 1 [.int .i64 gx] rfl rfl (cell_one_new _ _ _) (fun x hx => by simp at hx; subst hx; rfl) (by unfold maxLen; omega) (by omega) (by simp; omega) ?_
                  intro v' w3 hown' hgrow3 hnil3
                  have X : Aside (w3.ownsRow w.heap.size 3 1 v' (k + 1) (ints ((l.take (k + 1)).map kindI)) ∧ Below w.heap.size w w3) := ⟨by rw [HGS.out, ints_append]; exact hown', Below.grown (B1.out.alloc (by omega) _) hgrow3 (by simp; omega) (fun j hj => by have := (O1.out.lt _ hj).1; omega)⟩
                  clear hown' hgrow3 hnil3))
             go_roundw
             case rel => exact ⟨k + 1, by go_num, by omega, X⟩
             case measure => simp [intOf]; omega)
      · obtain rfl : k = p := by omega
        have hlen : ((l.take k).map kindI).length = k := by simp; omega
        have hlen2 : (l.take k).length = k := by simp; omega
        have hgb := kinds_bd (l.take k)
        have hrb := take_bd3 HBD.out k hpl
        have IR := Lib.hid ((HV.out.take_ k hpl).below HX.out.2 (Nat.le_refl _))
        have ho := HX.out.1
        obtain ⟨G, hG⟩ : ∃ G, (l.take k).map kindI = G := ⟨_, rfl⟩
        obtain ⟨R, hR⟩ : ∃ R, l.take k = R := ⟨_, rfl⟩
        rw [hG] at hlen ho hgb
        rw [hR] at hlen2 IR hrb
        rw [← hlen] at ho
        have IG := Lib.hid (IsInts.of_own ho)
        have H1 := Lib.hid (fun (W : World) (v : Value) (h : IsInts W v R) => cjoined_any R v c W h hrb hc0 hc1 (by omega))
        have H2 := Lib.hid (fun (W : World) (v : Value) (h : IsInts W v R) => rjoined_B R v c W h (by omega))
        have H3 := Lib.hid (fun (W : World) (v : Value) (h : IsInts W v G) => cjoined_any G v kc W h hgb (by omega) (by omega) (by omega))
        have H4 := Lib.hid (fun (W : World) (v : Value) (h : IsInts W v G) => rjoined_B G v kc W h (by omega))
        have H5 := Lib.hid (fun (W : World) (v : Value) (h : IsInts W v G) => cjoined_any G v c W h hgb hc0 hc1 (by omega))
        have H6 := Lib.hid (fun (W : World) (v : Value) (h : IsInts W v G) => rjoined_B G v c W h (by omega))
        have H7 := Lib.hid (fun (W : World) => cjoined_any [] (.slice none 0 0) c W (IsInts.nil_ _ _ _ (by omega)) (fun j hj => by simp at hj) hc0 hc1 (by simp))
        rw [show joinedB [] c = false from rfl] at H7
        obtain ⟨t1, ht1⟩ : ∃ t, joinedB R c = t := ⟨_, rfl⟩
        obtain ⟨t2, ht2⟩ : ∃ t, joinedB G kc = t := ⟨_, rfl⟩
        obtain ⟨t3, ht3⟩ : ∃ t, joinedB G c = t := ⟨_, rfl⟩
        rw [ht1] at H1 H2
        rw [ht2] at H3 H4
        rw [ht3] at H5 H6
        clear ht1 ht2 ht3 hG hR hlen hlen2 hgb hrb ho
        go_wp2_with fail
        refine (CK.out wr).mono ?_
        rintro e w0 ⟨rfl, b0⟩
        have IR0 := Lib.hid (IR.out.below b0 (Nat.le_refl _))
        have IG0 := Lib.hid (IG.out.below b0 (Nat.le_refl _))
        have B0 := aside (HX.out.2.trans (b0.mono HX.out.2.size))
        clear b0
        go_wp2_with fail
        refine (H1.out w0 _ IR0.out).mono ?_
        rintro e w1 ⟨rfl, b1⟩
        have IR1 := Lib.hid (IR0.out.below b1 (Nat.le_refl _))
        have IG1 := Lib.hid (IG0.out.below b1 (Nat.le_refl _))
        have B1 := aside (B0.out.trans (b1.mono B0.out.size))
        clear b1
        go_wp2_with fail
        refine (H2.out w1 _ IR1.out).mono ?_
        rintro e w2 ⟨rfl, b2⟩
        have IG2 := Lib.hid (IG1.out.below b2 (Nat.le_refl _))
        have B2 := aside (B1.out.trans (b2.mono B1.out.size))
        clear b2
        go_wp2_with fail
        refine (H3.out w2 _ IG2.out).mono ?_
        rintro e w3 ⟨rfl, b3⟩
        have IG3 := Lib.hid (IG2.out.below b3 (Nat.le_refl _))
        have B3 := aside (B2.out.trans (b3.mono B2.out.size))
        clear b3
        go_wp2_with fail
        refine (H4.out w3 _ IG3.out).mono ?_
        rintro e w4 ⟨rfl, b4⟩
        have IG4 := Lib.hid (IG3.out.below b4 (Nat.le_refl _))
        have B4 := aside (B3.out.trans (b4.mono B3.out.size))
        clear b4
        go_wp2_with fail
        refine (H5.out w4 _ IG4.out).mono ?_
        rintro e w5 ⟨rfl, b5⟩
        have IG5 := Lib.hid (IG4.out.below b5 (Nat.le_refl _))
        have B5 := aside (B4.out.trans (b5.mono B4.out.size))
        clear b5
        go_wp2_with fail
        refine (H6.out w5 _ IG5.out).mono ?_
        rintro e w6 ⟨rfl, b6⟩
        have B6 := aside (B5.out.trans (b6.mono B5.out.size))
        clear b6
        go_wp2_with fail
        refine (H7.out w6).mono ?_
        rintro e w7 ⟨rfl, b7⟩
        have B7 := aside (B6.out.trans (b7.mono B6.out.size))
        clear b7
        go_wp2_with fail
        refine (lives3 _).mono ?_
        rintro e w8 ⟨rfl, b8⟩
        go_wp2
        go_ret
        exact ⟨rfl, B7.out.trans (b8.mono B7.out.size)⟩

end Go.Proofs.Ytaocnnebfnlgiaa
