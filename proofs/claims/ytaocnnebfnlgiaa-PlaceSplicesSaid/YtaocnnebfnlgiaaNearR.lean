/-
  Contracts: the reference's Floor, Ceil, Index.
-/
import Derived.Test.YtaocnnebfnlgiaaMap
namespace Go.Proofs.Ytaocnnebfnlgiaa
open Go.RowKit

theorem IsInts.cells_ {w : World} {v : Value} {l : List Int} (h : IsInts w v l) (hp : 0 < l.length) : ∃ b off c, v = .slice (some ⟨b, off, none⟩) l.length c ∧ l.length ≤ c ∧ c ≤ 9223372036854775807 ∧ Hid (∀ j, j < l.length → w.cell? ⟨b, off + j, none⟩ = some (.int .i64 (l.getD j 0))) := by
  obtain ⟨A, c, rfl, h0, h1, h2⟩ := h
  obtain ⟨b, off, rfl, hc⟩ := h2 hp
  exact ⟨b, off, c, rfl, h0, h1, hc⟩

set_option maxHeartbeats 1000000 in
theorem rfloor_any (v : Value) (l : List Int) (x : Int) (w : World) (hi : IsInts w v l) (hl : OkL l) :
    Calls Try.prog 34 #[v, .int .i64 x] w fun e w' => e = .returned (.int .i64 (floorI l x)) ∧ w = w' := by
  obtain ⟨b, off, c, rfl, h1, h2, HC⟩ := hi.cells_ hl.pos
  have hp := hl.pos
  have hq := hl.small
  have HL := aside hl
  clear hl hi
  go_enter Try.func34, Try.ntmps34
  go_wp2
  go_loop [5, 6] (fun n i => ∃ k : Nat, k ≤ l.length ∧ i = .int .i64 k ∧ ∃ r, n = .int .i64 r ∧ Hid (r = floorI (l.take k) x)) (fun _ i => l.length - (intOf i).toNat)
  case atStart => exact ⟨0, Nat.zero_le _, rfl, 0, rfl, by show _ = _; simp [floor_nil]⟩
  case round =>
    obtain ⟨k, hk, rfl, r, rfl, HR⟩ := hrel
    by_cases hlt : k < l.length
    · have hck := HC.out k hlt
      obtain ⟨y, hy⟩ : ∃ y, l.getD k 0 = y := ⟨_, rfl⟩
      rw [hy] at hck
      by_cases hyx : y ≤ x
      · have HS : Hid ((k : Int) = floorI (l.take (k + 1)) x) := (floor_step HL.out.up k hlt x (by rw [hy]; exact hyx)).symm
        clear hy
        go_wp2
        go_round
        case rel => exact ⟨k + 1, by omega, by go_num, _, rfl, HS⟩
        case measure => simp [intOf]; omega
      · have HS : Hid (r = floorI (l.take (k + 1)) x) := HR.out.trans (floor_stay l k hlt x (by rw [hy]; omega)).symm
        clear hy
        go_wp2
        go_round
        case rel => exact ⟨k + 1, by omega, by go_num, _, rfl, HS⟩
        case measure => simp [intOf]; omega
    · have HS : Hid (r = floorI l x) := by
        show _ = _
        rw [HR.out, List.take_of_length_le (by omega)]
      go_wp2
      go_ret
      exact ⟨ret_int HS.out, rfl⟩

set_option maxHeartbeats 1000000 in
theorem rceil_any (v : Value) (l : List Int) (x : Int) (w : World) (hi : IsInts w v l) (hl : OkL l) :
    Calls Try.prog 36 #[v, .int .i64 x] w fun e w' => e = .returned (.int .i64 (ceilI l x)) ∧ w = w' := by
  obtain ⟨b, off, c, rfl, h1, h2, HC⟩ := hi.cells_ hl.pos
  have hp := hl.pos
  have hq := hl.small
  have HL := aside hl
  clear hl hi
  obtain ⟨r, hr⟩ : ∃ r, ceilI l x = r := ⟨_, rfl⟩
  have HR := Lib.hid hr
  rw [hr]
  clear hr
  go_enter Try.func36, Try.ntmps36
  go_wp2
  go_loop [5] (fun i => ∃ k : Nat, k ≤ l.length ∧ i = .int .i64 k ∧ Hid (∀ j, j < k → l.getD j 0 < x)) (fun i => l.length - (intOf i).toNat)
  case atStart => exact ⟨0, Nat.zero_le _, rfl, fun j hj => absurd hj (by omega)⟩
  case round =>
    obtain ⟨k, hk, rfl, HN⟩ := hrel
    by_cases hlt : k < l.length
    · have hck := HC.out k hlt
      obtain ⟨y, hy⟩ : ∃ y, l.getD k 0 = y := ⟨_, rfl⟩
      rw [hy] at hck
      have HY := Lib.hid hy
      clear hy
      by_cases hyx : x ≤ y
      · have HS : Hid ((k : Int) = r) := by
          show _ = _
          rw [← HR.out, ceil_at HL.out.up k hlt x HN.out (by rw [HY.out]; exact hyx)]
        go_wp2
        go_ret
        exact ⟨ret_int HS.out, rfl⟩
      · go_wp2
        go_round
        case rel => exact ⟨k + 1, by omega, by go_num, fun j hj => by
          by_cases e : j = k
          · rw [e, HY.out]; omega
          · exact HN.out j (by omega)⟩
        case measure => simp [intOf]; omega
    · have HS : Hid (r = (l.length : Int) - 1) := by
        show _ = _
        rw [← HR.out, ceil_end l x (fun j hj => HN.out j (by omega))]
        omega
      go_wp2
      go_ret
      exact ⟨ret_int HS.out.symm, rfl⟩

set_option maxHeartbeats 1000000 in
theorem rindex_any (v : Value) (l : List Int) (x : Int) (w : World) (hi : IsInts w v l) (hl : OkL l) :
    Calls Try.prog 40 #[v, .int .i64 x] w fun e w' => e = .returned (.int .i64 (indexI l x)) ∧ w = w' := by
  obtain ⟨b, off, c, rfl, h1, h2, HC⟩ := hi.cells_ hl.pos
  have hp := hl.pos
  have hq := hl.small
  have HL := aside hl
  clear hl hi
  obtain ⟨r, hr⟩ : ∃ r, indexI l x = r := ⟨_, rfl⟩
  have HR := Lib.hid hr
  rw [hr]
  clear hr
  go_enter Try.func40, Try.ntmps40
  go_wp2
  go_loop [5] (fun i => ∃ k : Nat, k ≤ l.length ∧ i = .int .i64 k ∧ Hid (∀ j, j < k → l.getD j 0 ≠ x)) (fun i => l.length - (intOf i).toNat)
  case atStart => exact ⟨0, Nat.zero_le _, rfl, fun j hj => absurd hj (by omega)⟩
  case round =>
    obtain ⟨k, hk, rfl, HN⟩ := hrel
    by_cases hlt : k < l.length
    · have hck := HC.out k hlt
      obtain ⟨y, hy⟩ : ∃ y, l.getD k 0 = y := ⟨_, rfl⟩
      rw [hy] at hck
      have HY := Lib.hid hy
      clear hy
      by_cases hyx : y = x
      · obtain rfl : y = x := hyx
        have HS : Hid ((k : Int) = r) := by
          show _ = _
          rw [← HR.out, index_at HL.out.up k hlt y HY.out]
        go_wp2
        go_ret
        exact ⟨ret_int HS.out, rfl⟩
      · have hyx' : (y == x) = false := by simpa using hyx
        go_wp2
        go_round
        case rel => exact ⟨k + 1, by omega, by go_num, fun j hj => by
          by_cases e : j = k
          · rw [e, HY.out]; exact hyx
          · exact HN.out j (by omega)⟩
        case measure => simp [intOf]; omega
    · have HS : Hid (r = -1) := by
        show _ = _
        rw [← HR.out, index_end l x (fun j hj => HN.out j (by omega))]
      go_wp2
      go_ret
      exact ⟨ret_int HS.out.symm, rfl⟩

end Go.Proofs.Ytaocnnebfnlgiaa
