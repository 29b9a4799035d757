/-
  The walk of PlaceNear: at each byte the two answers are the same.
-/
import Derived.Test.YtaocnnebfnlgiaaBegin
namespace Go.Proofs.Ytaocnnebfnlgiaa
open Go.RowKit

set_option maxHeartbeats 4000000 in
theorem placeNear_walk (s : ByteArray) (n : Int) (W : World) (hs : s.size ≤ 9223372036854775807) (hn0 : -9223372036854775808 ≤ n) (hn1 : n ≤ 9223372036854775807) :
    Calls Try.prog 8 #[.string s, .int .i64 n] W fun e w' => e = .returned (.bool true) ∧ Below W.heap.size W w' := by
  have BE := Lib.hid (begin_any s W hs)
  have hf := fewS_le s 40
  obtain ⟨t, ht⟩ : ∃ t, fewS s 40 = t := ⟨_, rfl⟩
  rw [ht] at BE hf
  clear ht
  have HO := Lib.hid (okL_of t (by omega))
  obtain ⟨l, hl⟩ : ∃ l, cstarts t = l := ⟨_, rfl⟩
  rw [hl] at BE HO
  clear hl
  have hp := HO.out.pos
  have hq := HO.out.small
  go_enter Try.func8, Try.ntmps8
  go_wp2_with fail
  refine BE.out.mono ?_
  rintro e w1 ⟨g, v, rfl, m1, i1, b1⟩
  have B1 := aside b1
  have MF := Lib.hid (fun (x : Int) (q : Nat) => mfloor_any g t l x (w1.drewN q) (m1.drewN q) HO.out)
  have MC := Lib.hid (fun (x : Int) (q : Nat) => mceil_any g t l x (w1.drewN q) (m1.drewN q) HO.out)
  have RF := Lib.hid (fun (x : Int) (q : Nat) => rfloor_any v l x (w1.drewN q) (i1.drewN q) HO.out)
  have RC := Lib.hid (fun (x : Int) (q : Nat) => rceil_any v l x (w1.drewN q) (i1.drewN q) HO.out)
  obtain ⟨vb, vo, vc, rfl, hv1, hv2, _⟩ := i1.cells_ hp
  clear m1 i1 b1
  go_wp2_with fail
  go_loopw [8] (fun i wr => ∃ k q : Nat, i = .int .i64 ((k : Int) - 2) ∧ k ≤ t.size + 4 ∧ wr = w1.drewN q) (fun i _ => t.size + 4 - ((intOf i) + 2).toNat)
  case atStart => exact ⟨0, 0, rfl, by omega, rfl⟩
  case round =>
    obtain ⟨k, q, rfl, hk, rfl⟩ := hrel
    by_cases hlt : k < t.size + 4
    · obtain ⟨x, hx⟩ : ∃ x, (k : Int) - 2 = x := ⟨_, rfl⟩
      have hx0 : -2 ≤ x := by omega
      have hx1 : x ≤ (t.size : Int) + 1 := by omega
      rw [hx]
      have HX := Lib.hid hx
      clear hx
      go_wp2_with fail
      refine (MF.out x q).mono ?_
      rintro e w' ⟨rfl, q2, rfl⟩
      rw [World.drewN_drewN]
      go_wp2_with fail
      refine (RF.out x _).mono ?_
      rintro e w' ⟨rfl, rfl⟩
      go_wp2_with fail
      refine (MC.out x _).mono ?_
      rintro e w' ⟨rfl, q3, rfl⟩
      rw [World.drewN_drewN]
      go_wp2_with fail
      refine (RC.out x _).mono ?_
      rintro e w' ⟨rfl, rfl⟩
      go_wp2
      go_roundw
      case rel => exact ⟨k + 1, _, by have := HX.out; congr 1; omega, by omega, rfl⟩
      case measure => have := HX.out; simp [intOf]; omega
    · obtain rfl : k = t.size + 4 := by omega
      have hx : ((t.size + 4 : Nat) : Int) - 2 = (t.size : Int) + 2 := by omega
      rw [hx]
      clear hx
      go_wp2_with fail
      refine (MF.out n q).mono ?_
      rintro e w' ⟨rfl, q2, rfl⟩
      rw [World.drewN_drewN]
      go_wp2_with fail
      refine (RF.out n _).mono ?_
      rintro e w' ⟨rfl, rfl⟩
      go_wp2_with fail
      refine (MC.out n _).mono ?_
      rintro e w' ⟨rfl, q3, rfl⟩
      rw [World.drewN_drewN]
      go_wp2_with fail
      refine (RC.out n _).mono ?_
      rintro e w' ⟨rfl, rfl⟩
      go_wp2_with fail
      refine (lives4 _).mono ?_
      rintro e w' ⟨rfl, b3⟩
      have B3 := aside ((below_drewN B1.out _).trans (b3.mono B1.out.size))
      clear b3
      go_wp2
      go_ret
      exact ⟨rfl, B3.out⟩

end Go.Proofs.Ytaocnnebfnlgiaa
