/-
  Contracts: within, its closure, ContainsFunc over ranges, the class of a character.
-/
import Derived.Test.YtaocnnebfnlgiaaDoorClass1
import Derived.Shelf.SlicesQ.IndexFunc
namespace Go.Proofs.YtaocnnebfnlgiaaDoor
open Go.RowKit

def encR (r : Int × Int) : List Value := [.int .i64 r.1, .int .i64 r.2]

set_option maxHeartbeats 1000000 in
theorem within_in (B : Nat) (c : Int) (r : Int × Int) (w : World) (hc : w.cell? ⟨B, 0, none⟩ = some (.int .i64 c)) :
    Calls Tryd.prog 55 #[.agg #[.int .i64 r.1, .int .i64 r.2], .pointer (some ⟨B, 0, none⟩)] w fun e w' => e = .returned (.bool (inR c r)) ∧ Below w.heap.size w w' := by
  obtain ⟨a, b⟩ := r
  have hB := World.block_lt_of_cell? w _ hc
  simp only at hB
  have hc' : ∀ o, (w.alloc o).cell? ⟨B, 0, none⟩ = some (.int .i64 c) := fun o => by rw [World.cell?_alloc_lt w o ⟨B, 0, none⟩ hB]; exact hc
  by_cases h1 : a ≤ c
  · by_cases h2 : c ≤ b
    all_goals
      have HR : Hid (inR c (a, b) = decide (c ≤ b)) := by show _ = _; simp [inR, h1]
      go_enter Tryd.func55, Tryd.ntmps55
      go_wp2
      go_ret
      exact ⟨by rw [HR.out]; simp [h2], (Below.refl _ _).alloc (Nat.le_refl _) _⟩
  · have HR : Hid (inR c (a, b) = false) := by show _ = _; simp [inR, h1]
    go_enter Tryd.func55, Tryd.ntmps55
    go_wp2
    go_ret
    exact ⟨by rw [HR.out]; rfl, (Below.refl _ _).alloc (Nat.le_refl _) _⟩

theorem within_pred (B : Nat) (c : Int) (w : World) (hc : w.cell? ⟨B, 0, none⟩ = some (.int .i64 c)) :
    PredBelow Tryd.prog 55 #[.pointer (some ⟨B, 0, none⟩)] (fun x => .agg (encR x).toArray) (inR c) w := by
  intro W x hb
  have hB := World.block_lt_of_cell? w _ hc
  refine (within_in B c x W ((hb.cell (p := ⟨B, 0, none⟩) hB).trans hc)).mono ?_
  rintro e w' ⟨rfl, h⟩
  exact ⟨rfl, hb.trans (h.mono hb.size)⟩

set_option maxHeartbeats 400000 in
/-- IndexFunc of no range. -/
theorem index_nil (A : Option Addr) (f : Value) (w : World) :
    Calls Tryd.prog 51 #[.slice A 0 0, f] w fun e w' => e = .returned (.bool false) ∧ w = w' := by
  have hI : Calls Tryd.prog 54 #[.slice A 0 0, f] w fun e w' => e = .returned (.int .i64 (-1)) ∧ w = w' := by
    go_enter Tryd.func54, Tryd.ntmps54
    go_wp2_with fail
    refine wp_loop_rounds 1 ?_
    rw [rounds_succ]
    go_wp2_with fail
    go_ret
    exact ⟨rfl, rfl⟩
  go_enter Tryd.func51, Tryd.ntmps51
  go_wp2_with fail
  refine hI.mono ?_
  rintro e w' ⟨rfl, rfl⟩
  go_wp2
  go_ret
  exact ⟨rfl, rfl⟩

theorem rcells_enc (rs : List (Int × Int)) (j : Nat) (hj : j < rs.length) (i : Nat) (v : Value) (h : (encR rs[j]!)[i]? = some v) : (rcells rs)[j * 2 + i]? = some v := by
  have hg := rcells_get rs j hj
  have e : rs[j]! = rs.getD j (0, 0) := by simp [hj]
  rw [e] at h
  match i, h with
  | 0, h => simp [encR] at h; rw [← h, Nat.add_zero, Nat.mul_comm]; exact hg.1
  | 1, h => simp [encR] at h; rw [← h, Nat.mul_comm]; exact hg.2
  | i + 2, h => simp [encR] at h

theorem contains_any (v : Value) (rs : List (Int × Int)) (B : Nat) (c : Int) (w : World) (hv : IsRng w v rs) (hc : w.cell? ⟨B, 0, none⟩ = some (.int .i64 c)) (hl : rs.length ≤ 1000) :
    Calls Tryd.prog 51 #[v, .func (.func 55) #[] #[.pointer (some ⟨B, 0, none⟩)]] w fun e w' => e = .returned (.bool (rs.any (inR c))) ∧ Below w.heap.size w w' := by
  obtain ⟨A, rfl, ⟨rfl, rfl⟩ | ⟨b, rfl, hb, hcell⟩⟩ := hv
  · refine (index_nil none _ w).mono ?_
    rintro e w' ⟨rfl, rfl⟩
    exact ⟨rfl, Below.refl _ _⟩
  · have h := Tryd.slices_ContainsFunc 2 (fun _ => by kernel_rfl) (fun _ => by kernel_rfl) encR (fun _ => rfl) (inR c) 55 #[.pointer (some ⟨B, 0, none⟩)] (enters_of Tryd.func55 (by kernel_rfl) rfl) b 0 rs.length rs.length rs w (within_pred B c w hc) (Nat.le_refl _) (by omega) hb (by
      intro j hj i u hu
      rw [Nat.zero_add]
      exact hcell _ u (rcells_enc rs j hj i u hu))
    refine h.mono ?_
    rintro e w' ⟨rfl, hb'⟩
    exact ⟨by rw [List.take_length], hb'⟩

set_option maxHeartbeats 400000 in
theorem within_any (c : Int) (w : World) :
    Calls Tryd.prog 53 #[.int .i64 c] w fun e w' => e = .returned (.func (.func 55) #[] #[.pointer (some ⟨w.heap.size, 0, none⟩)]) ∧ w.alloc (.cells #[.int .i64 c] 3) = w' := by
  go_enter Tryd.func53, Tryd.ntmps53
  go_wp2
  go_ret
  exact ⟨rfl, rfl⟩

theorem rng_len (k : Int) : (rng k).length ≤ 1000 := by
  unfold rng
  repeat' split
  all_goals decide

theorem isRng_alloc {w : World} {v : Value} {rs : List (Int × Int)} (h : IsRng w v rs) (o : Obj) : IsRng (w.alloc o) v rs := by
  obtain ⟨A, rfl, ⟨h1, h2⟩ | ⟨b, rfl, hb, hc⟩⟩ := h
  · exact ⟨A, rfl, .inl ⟨h1, h2⟩⟩
  · exact ⟨_, rfl, .inr ⟨b, rfl, by simp; omega, fun j u hj => by rw [World.cell?_alloc_lt w o ⟨b, j, none⟩ hb]; exact hc j u hj⟩⟩

set_option maxHeartbeats 1000000 in
theorem of_any (c : Int) (w : World) (h0 : -9223372036854775808 ≤ c) (h1 : c ≤ 9223372036854775807) :
    Calls Tryd.prog 43 #[.int .i64 c] w fun e w' => e = .returned (.int .i64 (ofI c)) ∧ Below w.heap.size w w' := by
  by_cases hh : 44032 ≤ c ∧ c ≤ 55203
  · obtain ⟨hc0, hc1⟩ := hh
    have hn : 0 ≤ c - 44032 := by omega
    by_cases hz : (c - 44032) % 28 = 0
    · have HO := Lib.hid (show ofI c = 12 by unfold ofI; rw [if_pos ⟨hc0, hc1⟩, if_pos hz])
      have hz2 : ((c - 44032) % 28 == 0) = true := beq_iff_eq.2 hz
      have HZ := Lib.hid hz
      clear hz
      go_enter Tryd.func43, Tryd.ntmps43
      go_wp2
      go_ret
      exact ⟨ret_int (by rw [HO.out]), Below.refl _ _⟩
    · have HO := Lib.hid (show ofI c = 13 by unfold ofI; rw [if_pos ⟨hc0, hc1⟩, if_neg hz])
      have hz2 : ((c - 44032) % 28 == 0) = false := beq_eq_false_iff_ne.2 hz
      have HZ := Lib.hid hz
      clear hz
      go_enter Tryd.func43, Tryd.ntmps43
      go_wp2
      go_ret
      exact ⟨ret_int (by rw [HO.out]), Below.refl _ _⟩
  · have HO := Lib.hid (show ofI c = findK c 14 1 by unfold ofI; rw [if_neg hh])
    rw [HO.out]
    have hor : c < 44032 ∨ (44032 ≤ c ∧ 55203 < c) := by omega
    clear hh
    rcases hor with hlo | ⟨hlo, hhi⟩
    all_goals
      go_enter Tryd.func43, Tryd.ntmps43
      go_wp2_with fail
      go_loopw [3] (fun i wr => ∃ k f : Nat, i = .int .i64 k ∧ 1 ≤ k ∧ k ≤ 15 ∧ k + f ≤ 15 ∧ 15 ≤ k + f ∧ Hid (findK c f k = findK c 14 1) ∧ Below w.heap.size w wr) (fun i _ => 15 - (intOf i).toNat)
      case atStart => exact ⟨1, 14, rfl, by omega, by omega, by omega, by omega, rfl, Below.refl _ _⟩
      case round =>
        obtain ⟨k, f, rfl, hk1, hk15, hkf, hkf2, HF, hbw⟩ := hrel
        by_cases hlt : k ≤ 14
        · obtain ⟨f, rfl⟩ : ∃ f', f = f' + 1 := ⟨f - 1, by omega⟩
          have BW := aside hbw
          clear hbw
          go_wp2_with fail
          refine (ranges_any k wr).mono ?_
          rintro e w1 ⟨v, rfl, hv, hb1⟩
          go_wp2_with fail
          refine (within_any c w1).mono ?_
          rintro e w2 ⟨rfl, rfl⟩
          go_wp2_with fail
          refine (contains_any v (rng k) w1.heap.size c _ (isRng_alloc hv _) (by simp) (rng_len k)).mono ?_
          rintro e w3 ⟨rfl, hb3⟩
          have B3 := aside (BW.out.trans ((hb1.mono BW.out.size).trans ((((Below.refl w1.heap.size w1).alloc (Nat.le_refl _) (.cells #[.int .i64 c] 3)).mono (by have := BW.out.size; have := hb1.size; omega)).trans (hb3.mono (by have := BW.out.size; have := hb1.size; simp; omega)))))
          clear hv hb1 hb3
          cases hs : (rng k).any (inR c) with
          | true =>
            have HR : Hid (findK c 14 1 = k) := by
              show _ = _
              rw [← HF.out]; unfold findK hasK; rw [hs]; rfl
            clear hs
            go_wp2
            go_ret
            exact ⟨ret_int (by rw [HR.out]), B3.out⟩
          | false =>
            have HR : Hid (findK c f (k + 1 : Nat) = findK c 14 1) := by
              show _ = _
              rw [← HF.out]
              conv => rhs; unfold findK hasK
              rw [hs]; rfl
            clear hs
            go_wp2
            go_roundw
            case rel => exact ⟨k + 1, f, by go_num, by omega, by omega, by omega, by omega, HR, B3.out⟩
            case measure => simp [intOf]; omega
        · obtain rfl : f = 0 := by omega
          go_wp2
          go_ret
          exact ⟨ret_int (by rw [← HF.out]; rfl), hbw⟩

end Go.Proofs.YtaocnnebfnlgiaaDoor
