/-
  A text's map in memory; contracts: New, Text, Len, Floor, Ceil, Index, Offset; the reference's Floor, Ceil, Index.
-/
import Derived.Test.YtaocnnebfnlgiaaDoorPlaceL
import Derived.Test.YtaocnnebfnlgiaaDoorClu2
import Derived.Test.YtaocnnebfnlgiaaDoorShelf
import Derived.Deep.QuietTactic
import Derived.BigQuiet
namespace Go.Proofs.YtaocnnebfnlgiaaDoor
open Go.RowKit

/-- A map, behind a pointer: the text, and where its clusters begin. -/
def MapL (w : World) (g : Nat) (s : ByteArray) (l : List Int) : Prop :=
  ∃ b c, w.cell? ⟨g, 0, none⟩ = some (.string s) ∧ w.cell? ⟨g, 1, none⟩ = some (.slice (some ⟨b, 0, none⟩) l.length c) ∧ l.length ≤ c ∧ c ≤ 9223372036854775807 ∧ (∀ j, j < l.length → w.cell? ⟨b, 0 + j, none⟩ = some (.int .i64 (l.getD j 0)))
theorem MapL.keep {w w' : World} {g : Nat} {s : ByteArray} {l : List Int} (h : MapL w g s l) (hk : ∀ b o, b < w.heap.size → w'.cell? ⟨b, o, none⟩ = w.cell? ⟨b, o, none⟩) : MapL w' g s l := by
  obtain ⟨b, c, k0, k1, h1, h2, hc⟩ := h
  have hg := World.block_lt_of_cell? w _ k0
  refine ⟨b, c, by rw [hk g 0 hg]; exact k0, by rw [hk g 1 hg]; exact k1, h1, h2, fun j hj => ?_⟩
  have hb := World.block_lt_of_cell? w _ (hc j hj)
  rw [hk b _ hb]
  exact hc j hj
theorem MapL.below {w w' : World} {g : Nat} {s : ByteArray} {l : List Int} {B : Nat} (h : MapL w g s l) (hb : Below B w w') (hB : w.heap.size ≤ B) : MapL w' g s l :=
  h.keep fun b o hlt => hb.cell (p := ⟨b, o, none⟩) (by show b < B; omega)
theorem MapL.drewN {w : World} {g : Nat} {s : ByteArray} {l : List Int} (h : MapL w g s l) (n : Nat) : MapL (w.drewN n) g s l := h
theorem MapL.alloc {w : World} {g : Nat} {s : ByteArray} {l : List Int} (h : MapL w g s l) (o : Obj) : MapL (w.alloc o) g s l :=
  h.keep fun b off hlt => World.cell?_alloc_lt w o ⟨b, off, none⟩ hlt

/-- The places of a text of up to a thousand bytes. -/
structure OkL (l : List Int) : Prop where
  pos : 0 < l.length
  small : l.length ≤ 1001
  up : Up l
theorem okL_of (s : ByteArray) (hs : s.size ≤ 1000) : OkL (cstarts s) :=
  ⟨by rw [cstarts_len]; omega, by rw [cstarts_len]; have := clen_le s; omega, up_cstarts s⟩

set_option maxHeartbeats 1000000 in
theorem new_any (s : ByteArray) (w : World) (hs : s.size ≤ 1000) :
    Calls Tryd.prog 10 #[.string s] w fun e w' => ∃ g, e = .returned (.pointer (some ⟨g, 0, none⟩)) ∧ MapL w' g s (cstarts s) ∧ Below w.heap.size w w' := by
  have CS := Lib.hid (fun W : World => cstarts_any s W hs)
  have hp := (okL_of s hs).pos
  obtain ⟨l, hl⟩ : ∃ l, cstarts s = l := ⟨_, rfl⟩
  rw [hl] at CS hp ⊢
  clear hl
  go_enter Tryd.func10, Tryd.ntmps10
  go_wp2_with fail
  refine (CS.out w).mono ?_
  rintro e w1 ⟨v, rfl, o1, b1⟩
  have hform : ∃ g c, v = .slice (some ⟨g, 0, none⟩) l.length c ∧ l.length ≤ c ∧ c ≤ 9223372036854775807 := by
    rcases o1.2 with ⟨h1, h0⟩ | ⟨g, cap, cur, h1, hg, hh, hc, hm, _⟩
    · omega
    · exact ⟨g, cap, h1, hc, hm⟩
  obtain ⟨g, c, rfl, hc1, hc2⟩ := hform
  have O1 := Lib.hid o1
  have B1 := aside b1
  have hs1 := b1.size
  clear o1 b1
  go_wp2_with fail
  go_ret
  refine ⟨_, rfl, ⟨g, c, by simp [World.cell?_alloc_new], by simp [World.cell?_alloc_new], hc1, hc2, fun j hj => ?_⟩, B1.out.alloc hs1 _⟩
  have h := O1.out.cellAt j (by omega)
  rw [ints_get l j hj] at h
  have hlt := World.block_lt_of_cell? w1 _ h
  rw [Nat.zero_add, World.cell?_alloc_lt w1 _ ⟨g, j, none⟩ hlt, h]

theorem mtext_any (g : Nat) (s : ByteArray) (l : List Int) (w : World) (hm : MapL w g s l) :
    Calls Tryd.prog 12 #[.pointer (some ⟨g, 0, none⟩)] w fun e w' => e = .returned (.string s) ∧ w = w' := by
  obtain ⟨b, c, k0, _⟩ := hm
  go_enter Tryd.func12, Tryd.ntmps12
  go_wp2
  go_ret
  exact ⟨rfl, rfl⟩

/-- How many clusters there are. -/
def lenI (l : List Int) : Int := (l.length : Int) - 1
theorem mlen_any (g : Nat) (s : ByteArray) (l : List Int) (w : World) (hm : MapL w g s l) (hl : OkL l) :
    Calls Tryd.prog 13 #[.pointer (some ⟨g, 0, none⟩)] w fun e w' => e = .returned (.int .i64 (lenI l)) ∧ w = w' := by
  obtain ⟨b, c, _, k1, h1, h2, _⟩ := hm
  have hp := hl.pos
  have hq := hl.small
  clear hl
  go_enter Tryd.func13, Tryd.ntmps13
  go_wp2
  go_ret
  exact ⟨rfl, rfl⟩

theorem bs_any (l : List Int) (b c : Nat) (x : Int) (w : World) (hl : OkL l) (hc : ∀ j, j < l.length → w.cell? ⟨b, 0 + j, none⟩ = some (.int .i64 (l.getD j 0))) :
    Calls Tryd.prog 28 #[.slice (some ⟨b, 0, none⟩) l.length c, .int .i64 x] w fun e w' => e = .returned (.tuple #[.int .i64 ((ltN l x : Nat) : Int), .bool (l.contains x)]) ∧ ∃ q, w' = w.drewN q := by
  have h := Tryd.slices_BinarySearch_int b 0 l.length c l x w (Nat.le_refl _) (by have := hl.small; omega) hc
    (by rw [List.take_of_length_le (Nat.le_refl _)]; exact hl.up.imp (fun h => Int.le_of_lt h))
  rw [List.take_of_length_le (Nat.le_refl _)] at h
  exact h

set_option maxHeartbeats 1000000 in
theorem mfloor_any (g : Nat) (s : ByteArray) (l : List Int) (x : Int) (w : World) (hm : MapL w g s l) (hl : OkL l) :
    Calls Tryd.prog 18 #[.pointer (some ⟨g, 0, none⟩), .int .i64 x] w fun e w' => e = .returned (.int .i64 (floorI l x)) ∧ ∃ q, w' = w.drewN q := by
  obtain ⟨b, c, _, k1, h1, h2, hc⟩ := hm
  have BS := Lib.hid (bs_any l b c x w hl hc)
  have hle := ltN_le l x
  have hq := hl.small
  obtain ⟨r, hr⟩ : ∃ r, floorI l x = r := ⟨_, rfl⟩
  cases hb : l.contains x with
  | true =>
    have HR := Lib.hid (floor_yes hl.up x hb)
    rw [hb] at BS
    rw [hr] at HR ⊢
    obtain ⟨n, hn⟩ : ∃ n, ltN l x = n := ⟨_, rfl⟩
    rw [hn] at BS HR hle
    clear hc hl hr hb hn
    go_enter Tryd.func18, Tryd.ntmps18
    go_wp2_with fail
    refine BS.out.mono ?_
    rintro e w1 ⟨rfl, q, rfl⟩
    go_wp2
    go_ret
    exact ⟨ret_int HR.out.symm, q, rfl⟩
  | false =>
    have HR := Lib.hid (floor_no hl.up x hb)
    rw [hb] at BS
    rw [hr] at HR ⊢
    obtain ⟨n, hn⟩ : ∃ n, ltN l x = n := ⟨_, rfl⟩
    rw [hn] at BS HR hle
    clear hc hl hr hb hn
    by_cases h0 : n = 0
    · obtain rfl : n = 0 := h0
      go_enter Tryd.func18, Tryd.ntmps18
      go_wp2_with fail
      refine BS.out.mono ?_
      rintro e w1 ⟨rfl, q, rfl⟩
      go_wp2
      go_ret
      exact ⟨ret_int HR.out.symm, q, rfl⟩
    · have h1 : 1 ≤ (n : Int) := by omega
      go_enter Tryd.func18, Tryd.ntmps18
      go_wp2_with fail
      refine BS.out.mono ?_
      rintro e w1 ⟨rfl, q, rfl⟩
      go_wp2
      go_ret
      exact ⟨ret_int (by rw [HR.out]; omega), q, rfl⟩

set_option maxHeartbeats 1000000 in
theorem mceil_any (g : Nat) (s : ByteArray) (l : List Int) (x : Int) (w : World) (hm : MapL w g s l) (hl : OkL l) :
    Calls Tryd.prog 19 #[.pointer (some ⟨g, 0, none⟩), .int .i64 x] w fun e w' => e = .returned (.int .i64 (ceilI l x)) ∧ ∃ q, w' = w.drewN q := by
  have ML := Lib.hid (fun q : Nat => mlen_any g s l (w.drewN q) (hm.drewN q) hl)
  obtain ⟨b, c, _, k1, h1, h2, hc⟩ := hm
  have BS := Lib.hid (bs_any l b c x w hl hc)
  have hle := ltN_le l x
  have hp := hl.pos
  have hq := hl.small
  obtain ⟨r, hr⟩ : ∃ r, ceilI l x = r := ⟨_, rfl⟩
  have HR : Hid (r = ((min (ltN l x) (l.length - 1) : Nat) : Int)) := hr.symm
  obtain ⟨m, hm2⟩ : ∃ m, lenI l = m := ⟨_, rfl⟩
  have hm3 : m = (l.length : Int) - 1 := hm2.symm
  have HM := Lib.hid hm3
  rw [hm2] at ML
  rw [hr]
  obtain ⟨n, hn⟩ : ∃ n, ltN l x = n := ⟨_, rfl⟩
  rw [hn] at BS HR hle
  have hm4 : 0 ≤ m := by omega
  have hm5 : m ≤ 1000 := by omega
  obtain ⟨bb, hbb⟩ : ∃ bb, l.contains x = bb := ⟨_, rfl⟩
  rw [hbb] at BS
  clear hc hl hr hm2 hm3 hn hbb
  by_cases hlt : (n : Int) < m
  all_goals
    go_enter Tryd.func19, Tryd.ntmps19
    go_wp2_with fail
    refine BS.out.mono ?_
    rintro e w1 ⟨rfl, q, rfl⟩
    go_wp2_with fail
    refine (ML.out q).mono ?_
    rintro e w1 ⟨rfl, rfl⟩
    go_wp2
    go_ret
    exact ⟨ret_int (by rw [HR.out]; have := HM.out; omega), q, rfl⟩


end Go.Proofs.YtaocnnebfnlgiaaDoor
