/-
  Contracts: Offset; begin; the layer's example.
-/
import Derived.Test.YtaocnnebfnlgiaaDoorNearR
import Derived.Test.YtaocnnebfnlgiaaDoorStartsR
import Derived.Test.YtaocnnebfnlgiaaDoorFew
namespace Go.Proofs.YtaocnnebfnlgiaaDoor
open Go.RowKit

set_option maxHeartbeats 1000000 in
theorem moffset_yes (g : Nat) (s : ByteArray) (l : List Int) (i : Nat) (w : World) (hm : MapL w g s l) (hl : OkL l) (hi : i < l.length) :
    Calls Tryd.prog 17 #[.pointer (some ⟨g, 0, none⟩), .int .i64 (i : Int)] w fun e w' => e = .returned (.tuple #[.int .i64 (l.getD i 0), .bool true]) ∧ w = w' := by
  obtain ⟨b, c, _, k1, h1, h2, hc⟩ := hm
  have hci := hc i hi
  have hq := hl.small
  obtain ⟨y, hy⟩ : ∃ y, l.getD i 0 = y := ⟨_, rfl⟩
  rw [hy] at hci ⊢
  rw [Nat.zero_add] at hci
  have hi3 : ¬ (l.length : Int) ≤ (i : Int) := by omega
  clear hy hc hl
  go_enter Tryd.func17, Tryd.ntmps17
  go_wp2
  go_ret2
  exact ⟨rfl, rfl⟩

set_option maxHeartbeats 1000000 in
theorem moffset_no (g : Nat) (s : ByteArray) (l : List Int) (i : Int) (w : World) (hm : MapL w g s l) (hl : OkL l) (hi : i < 0 ∨ (l.length : Int) ≤ i) :
    Calls Tryd.prog 17 #[.pointer (some ⟨g, 0, none⟩), .int .i64 i] w fun e w' => e = .returned (.tuple #[.int .i64 0, .bool false]) ∧ w = w' := by
  obtain ⟨b, c, _, k1, h1, h2, hc⟩ := hm
  have hq := hl.small
  clear hc hl
  by_cases hn : i < 0
  · go_enter Tryd.func17, Tryd.ntmps17
    go_wp2
    go_ret2
    exact ⟨rfl, rfl⟩
  · have hj : (l.length : Int) ≤ i := by omega
    clear hi
    go_enter Tryd.func17, Tryd.ntmps17
    go_wp2
    go_ret2
    exact ⟨rfl, rfl⟩

set_option maxHeartbeats 2000000 in
theorem begin_any (s : ByteArray) (w : World) (hs : s.size ≤ 9223372036854775807) :
    Calls Tryd.prog 5 #[.string s] w fun e w' => ∃ g v, e = .returned (.tuple #[.pointer (some ⟨g, 0, none⟩), .string (fewS s 40), v]) ∧ MapL w' g (fewS s 40) (cstarts (fewS s 40)) ∧ IsInts w' v (cstarts (fewS s 40)) ∧ Below w.heap.size w w' := by
  have FE := Lib.hid (few_any s 40 w hs (by omega))
  have hf := fewS_le s 40
  obtain ⟨t, ht⟩ : ∃ t, fewS s 40 = t := ⟨_, rfl⟩
  rw [ht] at FE hf ⊢
  clear ht
  have HO := Lib.hid (okL_of t (by omega))
  have NW := Lib.hid (fun W : World => new_any t W (by omega))
  have RS := Lib.hid (fun W : World => rcstarts_any t W (by omega))
  obtain ⟨l, hl⟩ : ∃ l, cstarts t = l := ⟨_, rfl⟩
  rw [hl] at HO NW RS ⊢
  clear hl
  have hp := HO.out.pos
  have hq := HO.out.small
  go_enter Tryd.func5, Tryd.ntmps5
  go_wp2_with fail
  refine FE.out.mono ?_
  rintro e w' ⟨rfl, rfl⟩
  go_wp2_with fail
  refine (NW.out _).mono ?_
  rintro e w1 ⟨g, rfl, m1, b1⟩
  have M1 := Lib.hid m1
  have B1 := aside b1
  clear m1 b1
  go_wp2_with fail
  refine (RS.out _).mono ?_
  rintro e w2 ⟨v, rfl, o2, b2⟩
  have M2 := Lib.hid (M1.out.below b2 (Nat.le_refl _))
  have I2 := Lib.hid (IsInts.of_own o2)
  have B2 := aside (B1.out.trans (b2.mono B1.out.size))
  clear o2 b2
  obtain ⟨vb, vo, vc, rfl, hv1, hv2, _⟩ := I2.out.cells_ hp
  have TX := Lib.hid (mtext_any g t l w2 M2.out)
  have ML := Lib.hid (show Calls Tryd.prog 13 #[.pointer (some ⟨g, 0, none⟩)] w2 fun e w' => e = .returned (.int .i64 ((l.length : Int) - 1)) ∧ w2 = w' from mlen_any g t l w2 M2.out HO.out)
  go_wp2_with fail
  refine TX.out.mono ?_
  rintro e w' ⟨rfl, rfl⟩
  go_wp2_with fail
  refine ML.out.mono ?_
  rintro e w' ⟨rfl, rfl⟩
  go_wp2
  go_ret3
  exact ⟨_, _, rfl, M2.out, I2.out, B2.out⟩

theorem ex_floor : floorI [0, 3, 4] 2 = 0 := by decide
theorem ex_ceil : ceilI [0, 3, 4] 2 = 1 := by decide

set_option maxHeartbeats 1000000 in
theorem lives4 (w : World) :
    Calls Tryd.prog 8 #[] w fun e w' => e = .returned (.bool true) ∧ Below w.heap.size w w' := by
  have NW := Lib.hid (fun W : World => new_any ⟨#[101, 204, 129, 120]⟩ W (by decide))
  have HO := Lib.hid (okL_of ⟨#[101, 204, 129, 120]⟩ (by decide))
  rw [ex_starts] at NW HO
  have hf := ex_floor
  have hc := ex_ceil
  go_enter Tryd.func8, Tryd.ntmps8
  go_wp2_with fail
  refine (NW.out _).mono ?_
  rintro e w1 ⟨g, rfl, m1, b1⟩
  have OF := Lib.hid (show Calls Tryd.prog 17 #[.pointer (some ⟨g, 0, none⟩), .int .i64 1] w1 fun e w' => e = .returned (.tuple #[.int .i64 3, .bool true]) ∧ w1 = w' from moffset_yes g _ [0, 3, 4] 1 w1 m1 HO.out (by decide))
  have FL := Lib.hid (mfloor_any g _ [0, 3, 4] 2 w1 m1 HO.out)
  have CE := Lib.hid (fun q : Nat => mceil_any g _ [0, 3, 4] 2 (w1.drewN q) (m1.drewN q) HO.out)
  rw [hf] at FL
  rw [hc] at CE
  have B1 := aside b1
  clear m1 b1 hf hc
  go_wp2_with fail
  refine OF.out.mono ?_
  rintro e w' ⟨rfl, rfl⟩
  go_wp2_with fail
  refine FL.out.mono ?_
  rintro e w' ⟨rfl, q, rfl⟩
  go_wp2_with fail
  refine (CE.out q).mono ?_
  rintro e w' ⟨rfl, q2, rfl⟩
  go_wp2
  go_ret
  exact ⟨rfl, below_drewN B1.out _⟩

end Go.Proofs.YtaocnnebfnlgiaaDoor
