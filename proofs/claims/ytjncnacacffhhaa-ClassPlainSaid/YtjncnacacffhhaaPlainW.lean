/-
  The walk of ClassPlain.
-/
import Derived.Test.YtjncnacacffhhaaPlainL
namespace Go.Proofs.Ytjncnacacffhhaa
open Go.RowKit

theorem plainAt_of (L : List Int) (j : Nat) (h : ofI (L.getD j 0) = 0 ∨ (ofI (L.getD j 0) = 4 ∧ 0 < j)) : plainAt L j = true := by
  unfold plainAt
  rcases h with h | ⟨h, hj⟩
  · rw [h]; rfl
  · rw [h, decide_eq_true hj]; rfl
theorem plainB_take (l : List Int) (p k : Nat) (hk : k ≤ p) : plainB ((itemsL l p).take k) = decide (0 < k) := by
  have hl : ((itemsL l p).take k).length = k := by rw [List.length_take, itemsL_len]; omega
  rw [plain_yes _ (fun j hj => plainAt_of _ j (by
    have e : ((itemsL l p).take k).getD j 0 = itemI j (l.getD j 0) := by
      rw [← itemsL_get l p j (by omega)]
      simp only [List.getD_eq_getElem?_getD, List.getElem?_take]
      rw [if_pos (by omega)]
    rw [e]; exact item_cls j _)), hl]
theorem plainB_two (l1 l2 : List Int) (p1 p2 : Nat) : plainB (itemsL l1 p1 ++ itemsL l2 p2) = decide (0 < p1 + p2) := by
  have hl : (itemsL l1 p1 ++ itemsL l2 p2).length = p1 + p2 := by rw [List.length_append, itemsL_len, itemsL_len]
  rw [plain_yes _ (fun j hj => plainAt_of _ j (by
    by_cases h : j < p1
    · have e : (itemsL l1 p1 ++ itemsL l2 p2).getD j 0 = itemI j (l1.getD j 0) := by
        rw [← itemsL_get l1 p1 j h]
        simp only [List.getD_eq_getElem?_getD]
        rw [List.getElem?_append_left (by rw [itemsL_len]; exact h)]
      rw [e]; exact item_cls j _
    · have e : (itemsL l1 p1 ++ itemsL l2 p2).getD j 0 = itemI (j - p1) (l2.getD (j - p1) 0) := by
        rw [← itemsL_get l2 p2 (j - p1) (by omega)]
        simp only [List.getD_eq_getElem?_getD]
        rw [List.getElem?_append_right (by rw [itemsL_len]; omega), itemsL_len]
      rw [e]
      rcases item_cls (j - p1) (l2.getD (j - p1) 0) with h2 | ⟨h2, h3⟩
      · exact .inl h2
      · exact .inr ⟨h2, by omega⟩)), hl]

theorem own_below {w w' : World} {B : Nat} {e : TypeId} {size : Nat} {v : Value} {n : Nat} {xs : List Value} (h : w.ownsRow B e size v n xs) (hb : Below w.heap.size w w') : w'.ownsRow B e size v n xs := by
  obtain ⟨h1, h2⟩ := h
  refine ⟨h1, ?_⟩
  rcases h2 with h2 | ⟨g, cap, cur, rfl, hg, hh, hrest⟩
  · exact .inl h2
  · exact .inr ⟨g, cap, cur, rfl, hg, (hb.block g (Array.getElem?_eq_some_iff.1 hh).1).trans hh, hrest⟩
theorem own_grow {w w' : World} {B : Nat} {e : TypeId} {size : Nat} {v : Value} {n : Nat} {xs : List Value} {row : Option Nat} (h : w.ownsRow B e size v n xs) (hg : w.grownBy w' row) (hp : ∀ k, v.ownBlock = some k → row ≠ some k) : w'.ownsRow B e size v n xs := by
  obtain ⟨h1, h2⟩ := h
  refine ⟨h1, ?_⟩
  rcases h2 with h2 | ⟨g, cp, cur, rfl, hgB, hh, hrest⟩
  · exact .inl h2
  · refine .inr ⟨g, cp, cur, rfl, hgB, ?_, hrest⟩
    rw [hg.block g (Array.getElem?_eq_some_iff.1 hh).1 (fun e => hp g rfl e.symm)]; exact hh

/-- append of a whole row of one's own onto another one. -/
theorem run_append_row {P : Program} (w : World) (t ty e : TypeId) (i : TypeInfo) (ht : P.underlying t = some (.slice e)) (hi : P.info? e = some i) (hz : i.zero = some (.int .i64 0)) (hs : i.size = 1) (hby : i.bytes = 8)
    (base B2 : Nat) (v : Value) (n : Nat) (xs : List Value) (hown : w.ownsRow base e 1 v n xs) (u : Value) (m : Nat) (ys : List Int) (hm : ys.length = m) (hu : w.ownsRow B2 e 1 u m (ints ys)) (hlen : n + m ≤ 1000000) (hbase : base ≤ w.heap.size) :
    ∃ v' w', (Builtin.append_ #[t, t] ty #[v, u]).run P w = .ok v' w' ∧ w'.ownsRow base e 1 v' (n + m) (xs ++ ints ys) ∧ w.grownBy w' v.ownBlock := by
  rcases hu.2 with ⟨rfl, h0⟩ | ⟨g, cap, cur, rfl, _⟩
  · have : ys = [] := List.eq_nil_of_length_eq_zero (by omega)
    subst this
    subst h0
    exact ⟨v, w, run_append_owned_none w base t ty e i 1 ht hi v n xs hown, by simpa [ints] using hown, World.grownBy.refl w _⟩
  · obtain ⟨v', w', h1, h2, h3, _⟩ := run_append_own (P := P) w base t ty e i (.int .i64 0) 1 8 ht hi hz hs hby rfl (by decide) v n xs hown ⟨g, 0, none⟩ m cap (ints ys) (by rw [ints_length]; omega) (hu.cells rfl) (ints_one ys) (by unfold maxLen; omega) (by omega) hbase
    exact ⟨v', w', h1, h2, h3⟩

theorem wpList_append_row {P : Program} (w : World) {ops : Array Oper} {rest : List Oper} {o : Oper} {a : Act} {Q : Exit → Act → World → Prop} (hgd : o.guard = none) (s x : Operand) (t : TypeId)
    (ho : o.op = .call { callee := .builtin .append, args := #[s, x], argTypes := #[t, t] })
    (e : TypeId) (i : TypeInfo) (ht : P.underlying t = some (.slice e)) (hi : P.info? e = some i) (hz : i.zero = some (.int .i64 0)) (hs : i.size = 1) (hby : i.bytes = 8)
    (base B2 : Nat) (v : Value) (n : Nat) (xs : List Value) (hv : a.eval s = v) (hown : w.ownsRow base e 1 v n xs) (u : Value) (m : Nat) (ys : List Int) (hue : a.eval x = u) (hm : ys.length = m) (hu : w.ownsRow B2 e 1 u m (ints ys)) (hlen : n + m ≤ 1000000) (hbase : base ≤ w.heap.size)
    (h : ∀ v' w', w'.ownsRow base e 1 v' (n + m) (xs ++ ints ys) → w.grownBy w' v.ownBlock → wpList P ops Q rest (a.put o.dst v') w') : wpList P ops Q (o :: rest) a w := by
  refine wpList_plain hgd fun K hK => ?_
  obtain ⟨v', w', h1, h2, h3⟩ := run_append_row (P := P) w t o.type e i ht hi hz hs hby base B2 v n xs hown u m ys hm hu hlen hbase
  unfold Oper.wp execOp
  simp only [ho, resolve, invoke, builtin, Sem.run_bind, Sem.run_pure, Result.andThen_ok, List.map_toArray, List.map_cons, List.map_nil, hv, hue, h1]
  exact hK _ _ (h v' w' h2 h3)

theorem take_bd {l : List Int} (hb : ∀ x ∈ l, -9223372036854775808 ≤ x ∧ x ≤ 9223372036854775807) (p : Nat) : ∀ j, j < (l.take p).length → -9223372036854775808 ≤ (l.take p).getD j 0 ∧ (l.take p).getD j 0 ≤ 9223372036854775807 := by
  intro j hj
  have e : (l.take p).getD j 0 = (l.take p)[j] := by rw [List.getD_eq_getElem?_getD, List.getElem?_eq_getElem hj]; rfl
  rw [e]
  exact hb _ (List.mem_of_mem_take (List.getElem_mem hj))
theorem items_bd (l : List Int) (p : Nat) : ∀ x ∈ itemsL l p, -9223372036854775808 ≤ x ∧ x ≤ 9223372036854775807 := by
  intro x hx
  simp only [itemsL, List.mem_map] at hx
  obtain ⟨j, _, rfl⟩ := hx
  have := item_bd j (l.getD j 0)
  omega
theorem mem_bd {l : List Int} (hb : ∀ x ∈ l, -9223372036854775808 ≤ x ∧ x ≤ 9223372036854775807) : ∀ j, j < l.length → -9223372036854775808 ≤ l.getD j 0 ∧ l.getD j 0 ≤ 9223372036854775807 := by
  intro j hj
  have e : l.getD j 0 = l[j] := by simp [hj]
  rw [e]
  exact hb _ (List.getElem_mem hj)

set_option maxHeartbeats 1500000 in
theorem classPlain_walk (v : Value) (l : List Int) (v2 : Value) (m : List Int) (w : World) (hl : IsInts w v l) (hb : ∀ x ∈ l, -9223372036854775808 ≤ x ∧ x ≤ 9223372036854775807) (hll : l.length ≤ 9223372036854775807)
    (hm : IsInts w v2 m) (hmb : ∀ x ∈ m, -9223372036854775808 ≤ x ∧ x ≤ 9223372036854775807) (hml : m.length ≤ 9223372036854775807) :
    Calls Try.prog 8 #[v, v2] w fun e w' => e = .returned (.bool true) ∧ Below w.heap.size w w' := by
  obtain ⟨i0, hi, hz0, hz1, hz2⟩ := info_parts info_int3
  have HL := aside hl
  have HM := aside hm
  have HLB := Lib.hid hb
  have HMB := Lib.hid hmb
  obtain ⟨A, c, rfl, hlc, hcm, _⟩ := hl
  obtain ⟨A2, c2, rfl, hlc2, hcm2, _⟩ := hm
  clear hb hmb
  go_enter Try.func8, Try.ntmps8
  go_wp2_with fail
  generalize hp : (min (l.length : Int) 6).toNat = p
  have hp6 : p ≤ 6 := by omega
  have hpl : p ≤ l.length := by omega
  clear hp
  have HR := aside (HL.out.take_ p hpl)
  have hrl : Hid ((l.take p).length = p) := by show _ = _; simp; omega
  refine (lplain_any _ (l.take p) w HR.out (take_bd HLB.out p) (by rw [hrl.out]; omega)).mono ?_
  rintro e w1 ⟨va, rfl, hva, b1⟩
  rw [hrl.out, itemsL_len] at hva
  have VA := aside hva
  have B1 := aside b1
  clear hva b1
  go_wp2_with fail
  generalize hp2 : (min (m.length : Int) 6).toNat = p2
  have hp26 : p2 ≤ 6 := by omega
  have hpl2 : p2 ≤ m.length := by omega
  clear hp2
  have hrl2 : Hid ((m.take p2).length = p2) := by show _ = _; simp; omega
  refine (lplain_any _ (m.take p2) w1 ((HM.out.take_ p2 hpl2).below B1.out (Nat.le_refl _)) (take_bd HMB.out p2) (by rw [hrl2.out]; omega)).mono ?_
  rintro e w2 ⟨vb, rfl, hvb, b2⟩
  rw [hrl2.out, itemsL_len] at hvb
  have VB := aside hvb
  have VA2 := aside (own_below VA.out b2)
  have B2 := aside (B1.out.trans (b2.mono B1.out.size))
  clear hvb b2
  go_wp2_with (first
    | (at_builtin
       refine wpList_append_row _ rfl _ _ 32 rfl 3 i0 Try.underlying32 hi hz0 hz1 hz2 w2.heap.size _ (.slice none 0 0) 0 [] rfl (World.ownsRow_nil _ _ _ _) va p (itemsL (l.take p) p) rfl (itemsL_len _ _) VA2.out (by omega) (Nat.le_refl _) ?_
       intro v1 w3 hown3 hg3
       have V1 : Hid (w3.ownsRow w2.heap.size 3 1 v1 (0 + p) ([] ++ ints (itemsL (l.take p) p)) ∧ w2.grownBy w3 (Value.slice none 0 0).ownBlock) := ⟨hown3, hg3⟩
       have hs3 : w2.heap.size ≤ w3.heap.size := hg3.size
       clear hown3 hg3
       go_wp2_with (first
         | (at_builtin
            refine wpList_append_row _ rfl _ _ 32 rfl 3 i0 Try.underlying32 hi hz0 hz1 hz2 w2.heap.size _ v1 (0 + p) _ rfl V1.out.1 vb p2 (itemsL (m.take p2) p2) rfl (itemsL_len _ _) (own_grow VB.out V1.out.2 (fun k e e2 => by simp [Value.ownBlock] at e2)) (by omega) hs3 ?_
            intro v3 w4 hown4 hg4
            have V4 : Hid (w4.ownsRow w2.heap.size 3 1 v3 (0 + p + p2) ([] ++ ints (itemsL (l.take p) p) ++ ints (itemsL (m.take p2) p2)) ∧ w3.grownBy w4 v1.ownBlock) := ⟨hown4, hg4⟩
            clear hown4 hg4)
         | fail))
    | fail)
  obtain ⟨la, hla⟩ : ∃ la, itemsL (l.take p) p = la := ⟨_, rfl⟩
  obtain ⟨lb, hlb⟩ : ∃ lb, itemsL (m.take p2) p2 = lb := ⟨_, rfl⟩
  have hlal : Hid (la.length = p) := by rw [← hla]; exact itemsL_len _ _
  have hlbl : Hid (lb.length = p2) := by rw [← hlb]; exact itemsL_len _ _
  have PT : Hid (∀ k, k ≤ p → plainB (la.take k) = decide (0 < k)) := by rw [← hla]; exact fun k hk => plainB_take _ p k hk
  have P2 : Hid (plainB (la ++ lb) = decide (0 < p + p2)) := by rw [← hla, ← hlb]; exact plainB_two _ _ _ _
  have LB : Hid (∀ x ∈ la, -9223372036854775808 ≤ x ∧ x ≤ 9223372036854775807) := by rw [← hla]; exact items_bd _ _
  have LB2 : Hid (∀ x ∈ la ++ lb, -9223372036854775808 ≤ x ∧ x ≤ 9223372036854775807) := by
    rw [← hla, ← hlb]
    intro x hx
    rcases List.mem_append.1 hx with h | h
    · exact items_bd _ _ x h
    · exact items_bd _ _ x h
  rw [hla] at VA VA2 V1 V4
  rw [hlb] at VB V4
  clear hla hlb
  have hgv1 : ∀ k, v1.ownBlock = some k → w2.heap.size ≤ k := fun k e => (V1.out.1.lt k e).1
  have B4 : Hid (Below w2.heap.size w2 w4) := ((Below.refl w2.heap.size w2).grown V1.out.2 (Nat.le_refl _) (fun k e => by simp [Value.ownBlock] at e)).grown V4.out.2 hs3 hgv1
  have IA : Aside (IsInts w4 va la) := by
    have h := own_below VA2.out B4.out
    rw [← hlal.out] at h
    exact IsInts.of_own h
  have I4 : Aside (IsInts w4 v3 (la ++ lb)) := by
    have h := V4.out.1
    rw [List.nil_append, ← ints_append, show 0 + p + p2 = (la ++ lb).length by rw [List.length_append, hlal.out, hlbl.out]; omega] at h
    exact IsInts.of_own h
  have BW4 : Hid (Below w.heap.size w w4) := B2.out.trans (B4.out.mono B2.out.size)
  obtain ⟨Aa, ca, hva, hca1, hca2, _⟩ := id IA.out
  obtain ⟨A4, c4, hv4, hc41, hc42, _⟩ := id I4.out
  rw [hlal.out] at hva hca1
  rw [List.length_append, hlal.out, hlbl.out] at hv4 hc41
  clear VA VA2 VB V1 V4 hs3 hgv1
  subst hva
  subst hv4
  go_loopw [9] (fun i wr => ∃ k : Nat, i = .int .i64 k ∧ k ≤ p + 1 ∧ Hid (Below w4.heap.size w4 wr)) (fun i _ => p + 1 - (intOf i).toNat)
  case atStart => exact ⟨0, rfl, by omega, Below.refl _ _⟩
  case round =>
    obtain ⟨k, rfl, hk, HB⟩ := hrel
    by_cases hlt : k ≤ p
    · have HT := aside ((IA.out.below HB.out (Nat.le_refl _)).take_ k (by rw [hlal.out]; exact hlt))
      have HPL := PT.out k hlt
      have HTB : Hid (∀ j, j < (la.take k).length → -9223372036854775808 ≤ (la.take k).getD j 0 ∧ (la.take k).getD j 0 ≤ 9223372036854775807) := take_bd LB.out k
      by_cases hk0 : k = 0
      · rw [decide_eq_false (by omega)] at HPL
        have HP := Lib.hid HPL
        clear HPL
        subst hk0
        go_wp2_with fail
        refine (plain_any _ (la.take 0) wr HT.out HTB.out).mono ?_
        rintro e w5 ⟨rfl, b5⟩
        rw [HP.out]
        have B5 : Hid (Below w4.heap.size w4 w5) := HB.out.trans (b5.mono HB.out.size)
        clear b5
        go_wp2
        go_roundw
        case rel => exact ⟨0 + 1, by go_num, by omega, B5⟩
        case measure => simp [intOf]
      · rw [decide_eq_true (by omega)] at HPL
        have HP := Lib.hid HPL
        have hk00 : 0 < k := by omega
        clear HPL hk0
        go_wp2_with fail
        refine (plain_any _ (la.take k) wr HT.out HTB.out).mono ?_
        rintro e w5 ⟨rfl, b5⟩
        rw [HP.out]
        have B5 : Hid (Below w4.heap.size w4 w5) := HB.out.trans (b5.mono HB.out.size)
        clear b5
        go_wp2
        go_roundw
        case rel => exact ⟨k + 1, by go_num, by omega, B5⟩
        case measure => simp [intOf]; omega
    · have BWR : Hid (Below w.heap.size w wr) := BW4.out.trans (HB.out.mono BW4.out.size)
      obtain ⟨pr, hpr⟩ : ∃ pr, plainB (l.take p) = pr := ⟨_, rfl⟩
      have HPR := Lib.hid hpr
      clear hpr
      have hcase : (decide (0 < (p : Int) + (p2 : Int)) = false ∧ Hid (plainB (la ++ lb) = false)) ∨ (decide (0 < (p : Int) + (p2 : Int)) = true ∧ Hid (plainB (la ++ lb) = true)) := by
        have h2 := P2.out
        by_cases h : 0 < p + p2
        · exact .inr ⟨decide_eq_true (by omega), by rw [decide_eq_true h] at h2; exact h2⟩
        · exact .inl ⟨decide_eq_false (by omega), by rw [decide_eq_false h] at h2; exact h2⟩
      rcases hcase with ⟨hpp, HP2⟩ | ⟨hpp, HP2⟩
      all_goals
        go_wp2_with fail
        refine (plain_any _ (l.take p) wr (HR.out.below BWR.out (Nat.le_refl _)) (take_bd HLB.out p)).mono ?_
        rintro e w5 ⟨rfl, b5⟩
        rw [HPR.out]
        have B5 : Hid (Below w4.heap.size w4 w5) := HB.out.trans (b5.mono HB.out.size)
        have BW5 : Hid (Below w.heap.size w w5) := BW4.out.trans (B5.out.mono BW4.out.size)
        clear b5
        go_wp2_with fail
        refine (rplain_any _ (l.take p) w5 (HR.out.below BW5.out (Nat.le_refl _)) (take_bd HLB.out p)).mono ?_
        rintro e w6 ⟨rfl, b6⟩
        rw [HPR.out]
        have B6 : Hid (Below w4.heap.size w4 w6) := B5.out.trans (b6.mono B5.out.size)
        clear b6
        go_wp2_with fail
        refine (plain_any _ (la ++ lb) w6 (I4.out.below B6.out (Nat.le_refl _)) (mem_bd LB2.out)).mono ?_
        rintro e w7 ⟨rfl, b7⟩
        rw [HP2.out]
        have B7 : Hid (Below w4.heap.size w4 w7) := B6.out.trans (b7.mono B6.out.size)
        clear b7
        go_wp2_with fail
        refine (plain_any _ [769] _ ⟨_, _, rfl, by simp, by omega, fun _ => ⟨_, 0, rfl, fun j hj => by
          have : j = 0 := by simpa using hj
          subst this
          simp [World.cell?_alloc_new]⟩⟩ (by intro j hj; have : j = 0 := by simpa using hj
                                             subst this; decide)).mono ?_
        rintro e w8 ⟨rfl, b8⟩
        rw [show plainB [769] = false by decide +kernel]
        have B8 : Hid (Below w4.heap.size w4 w8) := (B7.out.alloc B7.out.size _).trans (b8.mono (by have := B7.out.size; simp; omega))
        clear b8
        go_wp2_with fail
        refine (plain_any _ [65, 13] _ ⟨_, _, rfl, by simp, by omega, fun _ => ⟨_, 0, rfl, fun j hj => by
          have : j = 0 ∨ j = 1 := by simp at hj; omega
          rcases this with rfl | rfl <;> simp [World.cell?_alloc_new]⟩⟩ (by intro j hj; have : j = 0 ∨ j = 1 := by simp at hj; omega
                                                                            rcases this with rfl | rfl <;> decide)).mono ?_
        rintro e w9 ⟨rfl, b9⟩
        rw [show plainB [65, 13] = false by decide +kernel]
        have B9 : Hid (Below w4.heap.size w4 w9) := (B8.out.alloc B8.out.size _).trans (b9.mono (by have := B8.out.size; simp; omega))
        clear b9
        go_wp2_with fail
        refine (lives02 _).mono ?_
        rintro e w10 ⟨rfl, b10⟩
        go_wp2
        go_ret
        have z4 := BW4.out.size
        have z9 := B9.out.size
        exact ⟨rfl, BW4.out.trans ((B9.out.mono z4).trans (b10.mono (by omega)))⟩

end Go.Proofs.Ytjncnacacffhhaa
