/-
  Contracts: has, Slice, Cluster, Splice.
-/
import Derived.Test.YtaocnnebfnlgiaaDoorBegin
import Derived.Deep.RegionHeld3
namespace Go.Proofs.YtaocnnebfnlgiaaDoor
open Go.RowKit

/-- The places lie in the text. -/
structure OkS (s : ByteArray) (l : List Int) : Prop where
  ok : OkL l
  low : ∀ j, j < l.length → 0 ≤ l.getD j 0
  high : ∀ j, j < l.length → l.getD j 0 ≤ s.size
  sz : s.size ≤ 1000
theorem okS_of (s : ByteArray) (hs : s.size ≤ 1000) : OkS s (cstarts s) :=
  ⟨okL_of s hs, fun j hj => by have := rise_at _ 0 j (cstarts_rise s) hj; omega, fun j hj => cstarts_mem s j hj, hs⟩
/-- A piece. -/
def cutS (s : ByteArray) (l : List Int) (i j : Nat) : ByteArray := s.extract (l.getD i 0).toNat (l.getD j 0).toNat

section
variable (g : Nat) (s : ByteArray) (l : List Int)

set_option maxHeartbeats 1000000 in
theorem has_yes (i j : Nat) (w : World) (hm : MapL w g s l) (hl : OkL l) (hij : i ≤ j) (hj : j < l.length) :
    Calls Tryd.prog 47 #[.pointer (some ⟨g, 0, none⟩), .int .i64 (i : Int), .int .i64 (j : Int)] w fun e w' => e = .returned (.bool true) ∧ w = w' := by
  have ML := Lib.hid (show Calls Tryd.prog 13 #[.pointer (some ⟨g, 0, none⟩)] w fun e w' => e = .returned (.int .i64 ((l.length : Int) - 1)) ∧ w = w' from mlen_any g s l w hm hl)
  have hq := hl.small
  have h1 : (i : Int) ≤ (j : Int) := by omega
  have h2 : (j : Int) ≤ (l.length : Int) - 1 := by omega
  clear hm hl
  go_enter Tryd.func47, Tryd.ntmps47
  go_wp2_with fail
  refine ML.out.mono ?_
  rintro e w' ⟨rfl, rfl⟩
  go_wp2
  go_ret
  exact ⟨rfl, rfl⟩

set_option maxHeartbeats 1000000 in
theorem has_no (i j : Int) (w : World) (hm : MapL w g s l) (hl : OkL l) (h : i < 0 ∨ j < i ∨ (l.length : Int) ≤ j) :
    Calls Tryd.prog 47 #[.pointer (some ⟨g, 0, none⟩), .int .i64 i, .int .i64 j] w fun e w' => e = .returned (.bool false) ∧ w = w' := by
  have ML := Lib.hid (show Calls Tryd.prog 13 #[.pointer (some ⟨g, 0, none⟩)] w fun e w' => e = .returned (.int .i64 ((l.length : Int) - 1)) ∧ w = w' from mlen_any g s l w hm hl)
  have hq := hl.small
  have hp := hl.pos
  clear hm hl
  by_cases h1 : i < 0
  · clear h
    go_enter Tryd.func47, Tryd.ntmps47
    go_wp2
    go_ret
    exact ⟨rfl, rfl⟩
  · by_cases h2 : j < i
    · clear h
      go_enter Tryd.func47, Tryd.ntmps47
      go_wp2
      go_ret
      exact ⟨rfl, rfl⟩
    · have h3 : (l.length : Int) ≤ j := by omega
      have h4 : decide (j ≤ (l.length : Int) - 1) = false := decide_eq_false (by omega)
      clear h
      go_enter Tryd.func47, Tryd.ntmps47
      go_wp2_with fail
      refine ML.out.mono ?_
      rintro e w' ⟨rfl, rfl⟩
      go_wp2
      go_ret
      exact ⟨rfl, rfl⟩

set_option maxHeartbeats 2000000 in
theorem slice_yes (i j : Nat) (w : World) (hm : MapL w g s l) (hl : OkS s l) (hij : i ≤ j) (hj : j < l.length) :
    Calls Tryd.prog 35 #[.pointer (some ⟨g, 0, none⟩), .int .i64 (i : Int), .int .i64 (j : Int)] w fun e w' => e = .returned (.tuple #[.string (cutS s l i j), .bool true]) ∧ ∃ q, w' = w.drewN q := by
  have HA := Lib.hid (has_yes g s l i j w hm hl.ok hij hj)
  obtain ⟨b, c, k0, k1, h1, h2, hc⟩ := hm
  have ci := hc i (by omega)
  have cj := hc j hj
  rw [Nat.zero_add] at ci cj
  have a0 := hl.low i (by omega)
  have a1 := hl.high j hj
  have a2 := up_le hl.ok.up i j hij hj
  have a3 := hl.sz
  have a4 := hl.ok.small
  have hcut : cutS s l i j = s.extract (l.getD i 0).toNat (l.getD j 0).toNat := rfl
  obtain ⟨x, hx⟩ : ∃ x, l.getD i 0 = x := ⟨_, rfl⟩
  obtain ⟨y, hy⟩ : ∃ y, l.getD j 0 = y := ⟨_, rfl⟩
  rw [hx] at ci a0 a2 hcut
  rw [hy] at cj a1 a2 hcut
  rw [hcut]
  have e1 : i + (j + 1 - i - 1) = j := by omega
  have e2 : (j : Int) + 1 - (i : Int) - 1 = ((j - i : Nat) : Int) := by omega
  clear hc hl hx hy hcut
  go_enter Tryd.func35, Tryd.ntmps35
  go_wp2_with fail
  refine HA.out.mono ?_
  rintro e w' ⟨rfl, rfl⟩
  go_wp2_with fail
  go_quiet (fail)
  go_wp2
  go_ret2
  exact ⟨rfl, _, rfl⟩

set_option maxHeartbeats 2000000 in
theorem slice_no (i j : Int) (w : World) (hm : MapL w g s l) (hl : OkL l) (h : i < 0 ∨ j < i ∨ (l.length : Int) ≤ j) :
    Calls Tryd.prog 35 #[.pointer (some ⟨g, 0, none⟩), .int .i64 i, .int .i64 j] w fun e w' => e = .returned (.tuple #[.string ⟨#[]⟩, .bool false]) ∧ w = w' := by
  have HA := Lib.hid (has_no g s l i j w hm hl h)
  clear hm hl h
  go_enter Tryd.func35, Tryd.ntmps35
  go_wp2_with fail
  refine HA.out.mono ?_
  rintro e w' ⟨rfl, rfl⟩
  go_wp2
  go_ret2
  exact ⟨rfl, rfl⟩

set_option maxHeartbeats 2000000 in
theorem cluster_yes (i : Nat) (w : World) (hm : MapL w g s l) (hl : OkS s l) (hi : i + 1 < l.length) :
    Calls Tryd.prog 23 #[.pointer (some ⟨g, 0, none⟩), .int .i64 (i : Int)] w fun e w' => e = .returned (.tuple #[.string (cutS s l i (i + 1)), .bool true]) ∧ ∃ q, w' = w.drewN q := by
  have SY := Lib.hid (slice_yes g s l i (i + 1) w hm hl (by omega) hi)
  have ML := Lib.hid (show Calls Tryd.prog 13 #[.pointer (some ⟨g, 0, none⟩)] w fun e w' => e = .returned (.int .i64 ((l.length : Int) - 1)) ∧ w = w' from mlen_any g s l w hm hl.ok)
  have hq := hl.ok.small
  have h1 : (i : Int) < (l.length : Int) - 1 := by omega
  obtain ⟨x, hx⟩ : ∃ x, cutS s l i (i + 1) = x := ⟨_, rfl⟩
  rw [hx] at SY ⊢
  clear hm hl hx
  go_enter Tryd.func23, Tryd.ntmps23
  go_wp2_with fail
  refine ML.out.mono ?_
  rintro e w' ⟨rfl, rfl⟩
  go_wp2_with fail
  refine SY.out.mono ?_
  rintro e w' ⟨rfl, q, rfl⟩
  go_wp2
  go_ret2
  exact ⟨rfl, q, rfl⟩

set_option maxHeartbeats 2000000 in
theorem cluster_no (i : Int) (w : World) (hm : MapL w g s l) (hl : OkL l) (hi : i < 0 ∨ (l.length : Int) ≤ i + 1) :
    Calls Tryd.prog 23 #[.pointer (some ⟨g, 0, none⟩), .int .i64 i] w fun e w' => e = .returned (.tuple #[.string ⟨#[]⟩, .bool false]) ∧ w = w' := by
  have ML := Lib.hid (show Calls Tryd.prog 13 #[.pointer (some ⟨g, 0, none⟩)] w fun e w' => e = .returned (.int .i64 ((l.length : Int) - 1)) ∧ w = w' from mlen_any g s l w hm hl)
  have hq := hl.small
  have hp := hl.pos
  clear hm hl
  by_cases h0 : i < 0
  · clear hi
    go_enter Tryd.func23, Tryd.ntmps23
    go_wp2
    go_ret2
    exact ⟨rfl, rfl⟩
  · have h1 : (l.length : Int) - 1 ≤ i := by omega
    clear hi
    go_enter Tryd.func23, Tryd.ntmps23
    go_wp2_with fail
    refine ML.out.mono ?_
    rintro e w' ⟨rfl, rfl⟩
    go_wp2
    go_ret2
    exact ⟨rfl, rfl⟩

end

end Go.Proofs.YtaocnnebfnlgiaaDoor
