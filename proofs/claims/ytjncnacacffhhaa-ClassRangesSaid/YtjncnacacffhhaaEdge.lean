/-
  The contract of Edge; a class's plain list; the walks of ClassOf.
-/
import Derived.Test.YtjncnacacffhhaaTable
import Derived.Test.YtjncnacacffhhaaClassB
namespace Go.Proofs.Ytjncnacacffhhaa
open Go.RowKit

/-- Edge, plain. -/
def edgeI (n side : Int) : Int :=
  let r := tbl.getD (aroundI n 66).toNat (0, 0, 0)
  if side.tmod 4 = 0 then r.1 else if side.tmod 4 = 1 ∨ side.tmod 4 = -1 then r.2.1 else if side.tmod 4 = 2 ∨ side.tmod 4 = -2 then r.1 - 1 else r.2.1 + 1
theorem tbl_bd : ∀ j, j < 66 → 0 ≤ (tbl.getD j (0, 0, 0)).1 ∧ (tbl.getD j (0, 0, 0)).1 ≤ 1000000 ∧ 0 ≤ (tbl.getD j (0, 0, 0)).2.1 ∧ (tbl.getD j (0, 0, 0)).2.1 ≤ 1000000 := by
  have H : ∀ j : Fin 66, 0 ≤ (tbl.getD j.val (0, 0, 0)).1 ∧ (tbl.getD j.val (0, 0, 0)).1 ≤ 1000000 ∧ 0 ≤ (tbl.getD j.val (0, 0, 0)).2.1 ∧ (tbl.getD j.val (0, 0, 0)).2.1 ≤ 1000000 := by decide
  exact fun j hj => H ⟨j, hj⟩
theorem edgeI_bd (n side : Int) : -1 ≤ edgeI n side ∧ edgeI n side ≤ 1000001 := by
  have hb := aroundI_bd n 66 (by omega)
  have h := tbl_bd (aroundI n 66).toNat (by omega)
  unfold edgeI
  simp only
  repeat' split
  all_goals omega

set_option maxHeartbeats 2000000 in
theorem edge_any (n side : Int) (w : World) (h0 : -9223372036854775808 ≤ n) (h1 : n ≤ 9223372036854775807) (hs0 : -9223372036854775808 ≤ side) (hs1 : side ≤ 9223372036854775807) :
    Calls Try.prog 12 #[.int .i64 n, .int .i64 side] w fun e w' => e = .returned (.int .i64 (edgeI n side)) ∧ Below w.heap.size w w' := by
  obtain ⟨k, hk, hk1⟩ := around_nat n 66 (by omega)
  have hk66 : k < 66 := by omega
  have hg := tcells_get tbl k (by rw [tbl_len]; exact hk66)
  have hbd := tbl_bd k hk66
  obtain ⟨⟨x, y, z⟩, ht⟩ : ∃ t, tbl.getD k (0, 0, 0) = t := ⟨_, rfl⟩
  rw [ht] at hg hbd
  obtain ⟨hb0, hb1, hb2, hb3⟩ := hbd
  simp only at hb0 hb1 hb2 hb3
  have HE : Hid (edgeI n side = if side.tmod 4 = 0 then x else if side.tmod 4 = 1 ∨ side.tmod 4 = -1 then y else if side.tmod 4 = 2 ∨ side.tmod 4 = -2 then x - 1 else y + 1) := by
    show _ = _
    unfold edgeI
    rw [hk, Int.toNat_natCast, ht]
  have HG := Lib.hid hg
  clear hg ht
  obtain ⟨s, hs⟩ : ∃ s, side.tmod 4 = s := ⟨_, rfl⟩
  have hsb : -3 ≤ s ∧ s ≤ 3 := by
    rw [← hs]
    have a1 := Int.tmod_lt_of_pos side (b := 4) (by omega)
    have a2 := Int.lt_tmod_of_pos side (b := 4) (by omega)
    omega
  rw [hs] at HE
  have HS := Lib.hid hs
  have hcases : s = 0 ∨ s = 1 ∨ s = -1 ∨ s = 2 ∨ s = -2 ∨ s = 3 ∨ s = -3 := by omega
  clear hs hsb
  have hn : (n < 0 ∧ Hid (-((n + 1).tmod 66) = k)) ∨ (0 ≤ n ∧ Hid (n % 66 = k)) := by
    by_cases h : n < 0
    · refine .inl ⟨h, ?_⟩
      show _ = _
      rw [← Int.neg_tmod, Int.tmod_eq_emod_of_nonneg (by omega), ← hk]; unfold aroundI; rw [if_pos h]
    · refine .inr ⟨by omega, ?_⟩
      show _ = _
      rw [← hk]; unfold aroundI; rw [if_neg h]
  clear hk
  rcases hn with ⟨hn, HK⟩ | ⟨hn, HK⟩
  all_goals
    have hkk := HK.out
    rcases hcases with rfl | rfl | rfl | rfl | rfl | rfl | rfl
    all_goals
      have hss := HS.out
      go_enter Try.func12, Try.ntmps12
      go_wp2_with fail
      refine (table_any w).mono ?_
      rintro e w1 ⟨v, rfl, ⟨b, rfl, hb, hcell⟩, hb1'⟩
      have d0 := hcell _ _ HG.out.1
      have d1 := hcell _ _ HG.out.2.1
      have d2 := hcell _ _ HG.out.2.2
      have B1 := aside hb1'
      clear hcell hb1'
      go_wp2_with fail
      go_ret
      exact ⟨ret_int (by rw [HE.out]; rfl), B1.out.alloc B1.out.size _⟩

set_option maxHeartbeats 400000 in
theorem has_yes (c : Int) (w : World) (h0 : -9223372036854775808 ≤ c) (h1 : c ≤ 9223372036854775807) :
    Calls Try.prog 17 #[.int .i64 (ofI c), .int .i64 c] w fun e w' => e = .returned (.bool true) ∧ Below w.heap.size w w' := by
  obtain ⟨k, hk⟩ : ∃ k, ofI c = k := ⟨_, rfl⟩
  have HK := Lib.hid hk
  rw [hk]
  clear hk
  go_enter Try.func17, Try.ntmps17
  go_wp2_with fail
  refine (of_any c w h0 h1).mono ?_
  rintro e w1 ⟨rfl, b1⟩
  rw [HK.out]
  go_wp2
  go_ret
  exact ⟨rfl, b1⟩
set_option maxHeartbeats 400000 in
theorem has_no (c : Int) (w : World) (h0 : -9223372036854775808 ≤ c) (h1 : c ≤ 9223372036854775807) :
    Calls Try.prog 17 #[.int .i64 (ofI c + 1), .int .i64 c] w fun e w' => e = .returned (.bool false) ∧ Below w.heap.size w w' := by
  obtain ⟨k, hk⟩ : ∃ k, ofI c = k := ⟨_, rfl⟩
  have HK := Lib.hid hk
  rw [hk]
  clear hk
  have hn : (k == k + 1) = false := by simp; omega
  go_enter Try.func17, Try.ntmps17
  go_wp2_with fail
  refine (of_any c w h0 h1).mono ?_
  rintro e w1 ⟨rfl, b1⟩
  rw [HK.out]
  go_wp2
  go_ret
  exact ⟨rfl, b1⟩

theorem goodI_bd (n : Int) : 0 ≤ goodI n ∧ goodI n ≤ 1116160 := by
  have h := aroundI_bd n 1114112 (by omega)
  unfold goodI
  split <;> omega

/-- One round of ClassOf. -/
def OfCells (w0 : World) (b : Nat) (x y z : Int) : Prop := w0.cell? ⟨b, 0, none⟩ = some (.int .i64 x) ∧ w0.cell? ⟨b, 1, none⟩ = some (.int .i64 y) ∧ w0.cell? ⟨b, 2, none⟩ = some (.int .i64 z)

set_option maxHeartbeats 2000000 in
theorem classOf_walk (n side : Int) (w : World) (h0 : -9223372036854775808 ≤ n) (h1 : n ≤ 9223372036854775807) (hs0 : -9223372036854775808 ≤ side) (hs1 : side ≤ 9223372036854775807) :
    Calls Try.prog 5 #[.int .i64 n, .int .i64 side] w fun e w' => e = .returned (.bool true) ∧ Below w.heap.size w w' := by
  have hg := goodI_bd n
  have he := edgeI_bd n side
  obtain ⟨y, hy⟩ : ∃ y, goodI n = y := ⟨_, rfl⟩
  obtain ⟨z, hz⟩ : ∃ z, edgeI n side = z := ⟨_, rfl⟩
  rw [hy] at hg
  rw [hz] at he
  obtain ⟨hg0, hg1⟩ := hg
  obtain ⟨he0, he1⟩ := he
  have HY := Lib.hid hy
  have HZ := Lib.hid hz
  clear hy hz
  go_enter Try.func5, Try.ntmps5
  go_wp2_with fail
  refine (good_any n w h0 h1).mono ?_
  rintro e w' ⟨rfl, rfl⟩
  rw [HY.out]
  go_wp2_with fail
  refine (edge_any n side w h0 h1 hs0 hs1).mono ?_
  rintro e w1 ⟨rfl, b1⟩
  rw [HZ.out]
  have B1 := aside b1
  clear b1
  go_wp2_with fail
  have HOC : Hid (OfCells (w1.alloc (.cells #[.int .i64 n, .int .i64 y, .int .i64 z] 3)) w1.heap.size n y z) := ⟨by simp, by simp, by simp⟩
  have BA := aside ((Below.refl w1.heap.size w1).alloc (Nat.le_refl _) (.cells #[.int .i64 n, .int .i64 y, .int .i64 z] 3))
  have hsz : Hid (w1.heap.size < (w1.alloc (.cells #[.int .i64 n, .int .i64 y, .int .i64 z] 3)).heap.size) := by show _ < _; simp
  generalize w1.alloc _ = W at HOC BA hsz ⊢
  go_loopw [6] (fun i wr => ∃ k : Nat, i = .int .i64 k ∧ k ≤ 3 ∧ Below W.heap.size W wr) (fun i _ => 3 - (intOf i).toNat)
  case atStart => exact ⟨0, rfl, by omega, Below.refl _ _⟩
  case round =>
    obtain ⟨k, rfl, hk, hbw⟩ := hrel
    have BW := aside hbw
    clear hbw
    by_cases hlt : k < 3
    · obtain ⟨c, hc0, hc1, hcell⟩ : ∃ c : Int, -9223372036854775808 ≤ c ∧ c ≤ 9223372036854775807 ∧ Hid (∀ W' : World, Below W.heap.size W W' → W'.cell? ⟨w1.heap.size, k, none⟩ = some (.int .i64 c)) := by
        have hk3 : k = 0 ∨ k = 1 ∨ k = 2 := by omega
        rcases hk3 with rfl | rfl | rfl
        · exact ⟨n, h0, h1, fun W' hb => by rw [hb.cell (p := ⟨w1.heap.size, 0, none⟩) hsz.out]; exact HOC.out.1⟩
        · exact ⟨y, by omega, by omega, fun W' hb => by rw [hb.cell (p := ⟨w1.heap.size, 1, none⟩) hsz.out]; exact HOC.out.2.1⟩
        · exact ⟨z, by omega, by omega, fun W' hb => by rw [hb.cell (p := ⟨w1.heap.size, 2, none⟩) hsz.out]; exact HOC.out.2.2⟩
      have d0 := hcell.out wr BW.out
      go_wp2_with fail
      refine (rof_any c wr).mono ?_
      rintro e w2 ⟨rfl, b2⟩
      have B2 := aside (BW.out.trans (b2.mono BW.out.size))
      have d2 := hcell.out w2 B2.out
      clear b2 d0
      have hob := ofI_bd c
      obtain ⟨o, ho⟩ : ∃ o, ofI c = o := ⟨_, rfl⟩
      rw [ho] at hob
      have HO := Lib.hid ho
      rw [ho]
      obtain ⟨hob0, hob1⟩ := hob
      clear ho
      go_wp2_with fail
      refine (of_any c w2 hc0 hc1).mono ?_
      rintro e w3 ⟨rfl, b3⟩
      rw [HO.out]
      have B3 := aside (B2.out.trans (b3.mono B2.out.size))
      have d3 := hcell.out w3 B3.out
      clear b3 d2
      have HYs := has_yes c w3 hc0 hc1
      rw [HO.out] at HYs
      have HYS := Lib.hid HYs
      clear HYs
      go_wp2_with fail
      refine HYS.out.mono ?_
      rintro e w4 ⟨rfl, b4⟩
      have B4 := aside (B3.out.trans (b4.mono B3.out.size))
      have d4 := hcell.out w4 B4.out
      clear b4 d3 HYS
      have HNs := has_no c w4 hc0 hc1
      rw [HO.out] at HNs
      have HNS := Lib.hid HNs
      clear HNs
      go_wp2_with fail
      refine HNS.out.mono ?_
      rintro e w5 ⟨rfl, b5⟩
      have B5 := aside (B4.out.trans (b5.mono B4.out.size))
      clear b5 d4 HNS
      go_wp2
      go_roundw
      case rel => exact ⟨k + 1, by go_num, by omega, B5.out⟩
      case measure => simp [intOf]; omega
    · go_wp2_with fail
      refine (lives02 _).mono ?_
      rintro e w2 ⟨rfl, b2⟩
      go_wp2
      go_ret
      have z1 := B1.out.size
      have z2 := BW.out.size
      have z3 := hsz.out
      exact ⟨rfl, B1.out.trans ((BA.out.mono z1).trans ((BW.out.mono (by omega)).trans (b2.mono (by omega))))⟩

end Go.Proofs.Ytjncnacacffhhaa
