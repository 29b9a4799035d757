/-
  The walk of PlaceOffsets: at each number and each byte the two answers are the same.
-/
import Derived.Test.YtaocnnebfnlgiaaBegin
namespace Go.Proofs.Ytaocnnebfnlgiaa
open Go.RowKit

theorem has_index (l : List Int) (x : Int) : l.contains x = decide (0 ≤ indexI l x) := by
  unfold indexI
  cases l.contains x with
  | true => rw [if_pos rfl]; symm; exact decide_eq_true (by omega)
  | false => rw [if_neg (by decide)]; symm; exact decide_eq_false (by omega)

set_option maxRecDepth 100000 in
set_option maxHeartbeats 4000000 in
theorem placeOffsets_walk (s : ByteArray) (n : Int) (W : World) (hs : s.size ≤ 9223372036854775807) (hn0 : -9223372036854775808 ≤ n) (hn1 : n ≤ 9223372036854775807) :
    Calls Try.prog 9 #[.string s, .int .i64 n] W fun e w' => e = .returned (.bool true) ∧ Below W.heap.size W w' := by
  have BE := Lib.hid (begin_any s W hs)
  have hf := fewS_le s 40
  obtain ⟨t, ht⟩ : ∃ t, fewS s 40 = t := ⟨_, rfl⟩
  rw [ht] at BE hf
  clear ht
  have HO := Lib.hid (okL_of t (by omega))
  obtain ⟨l, hl⟩ : ∃ l, cstarts t = l := ⟨_, rfl⟩
  rw [hl] at BE HO
  clear hl
  have hp := HO.out.pos
  have hq := HO.out.small
  go_enter Try.func9, Try.ntmps9
  go_wp2_with fail
  refine BE.out.mono ?_
  rintro e w1 ⟨g, v, rfl, m1, i1, b1⟩
  have B1 := aside b1
  have OY := Lib.hid (fun (i : Nat) (hi : i < l.length) (q : Nat) => moffset_yes g t l i (w1.drewN q) (m1.drewN q) HO.out hi)
  have ON := Lib.hid (fun (i : Int) (hi : i < 0 ∨ (l.length : Int) ≤ i) (q : Nat) => moffset_no g t l i (w1.drewN q) (m1.drewN q) HO.out hi)
  have MI := Lib.hid (fun (x : Int) (q : Nat) => mindex_any g t l x (w1.drewN q) (m1.drewN q) HO.out)
  have RI := Lib.hid (fun (x : Int) (q : Nat) => rindex_any v l x (w1.drewN q) (i1.drewN q) HO.out)
  obtain ⟨vb, vo, vc, rfl, hv1, hv2, VC⟩ := i1.cells_ hp
  clear m1 i1 b1
  go_wp2_with fail
  go_loopw [8, 9, 10, 11] (fun i _ _ _ wr => ∃ k q : Nat, i = .int .i64 ((k : Int) - 1) ∧ k ≤ l.length + 2 ∧ wr = w1.drewN q) (fun i _ _ _ _ => l.length + 2 - ((intOf i) + 1).toNat)
  case atStart => exact ⟨0, 0, rfl, by omega, rfl⟩
  case round =>
    obtain ⟨k, q, rfl, hk, rfl⟩ := hrel
    by_cases hlt : k < l.length + 2
    · by_cases hin : 1 ≤ k ∧ k ≤ l.length
      · obtain ⟨j, rfl⟩ : ∃ j, k = j + 1 := ⟨k - 1, by omega⟩
        have hx : ((j + 1 : Nat) : Int) - 1 = (j : Int) := by omega
        rw [hx]
        have hj : j < l.length := by omega
        have hj2 : (j : Int) < (l.length : Int) := by omega
        have hj3 : (j : Int) ≤ (l.length : Int) := by omega
        have hj4 : (j : Int) ≤ (l.length : Int) - 1 := by omega
        have hck := VC.out j hj
        have OJ := Lib.hid (OY.out j hj q)
        obtain ⟨y, hy⟩ : ∃ y, l.getD j 0 = y := ⟨_, rfl⟩
        rw [hy] at hck OJ
        have hmin : (min (j : Int) ((l.length : Int) - 1)).toNat = j := by omega
        have hck2 : w1.cell? ⟨vb, vo + (min (j : Int) ((l.length : Int) - 1)).toNat, none⟩ = some (.int .i64 y) := by rw [hmin]; exact hck
        clear hx hin hy hmin
        go_wp2_with fail
        refine OJ.out.mono ?_
        rintro e w' ⟨rfl, rfl⟩
        go_wp2
        go_roundw
        case rel => exact ⟨j + 1 + 1, _, by congr 1; omega, by omega, rfl⟩
        case measure => simp [intOf]; omega
      · obtain ⟨x, hx⟩ : ∃ x, (k : Int) - 1 = x := ⟨_, rfl⟩
        have hxo : x < 0 ∨ (l.length : Int) ≤ x := by omega
        have hx0 : -1 ≤ x := by omega
        have hx1 : x ≤ (l.length : Int) := by omega
        rw [hx]
        have HX := Lib.hid hx
        have OJ := Lib.hid (ON.out x hxo q)
        clear hx hin
        rcases hxo with hxo | hxo
        all_goals
          go_wp2_with fail
          refine OJ.out.mono ?_
          rintro e w' ⟨rfl, rfl⟩
          go_wp2
          go_roundw
          case rel => exact ⟨k + 1, _, by have := HX.out; congr 1; omega, by omega, rfl⟩
          case measure => have := HX.out; simp [intOf]; omega
    · obtain rfl : k = l.length + 2 := by omega
      have hx : ((l.length + 2 : Nat) : Int) - 1 = (l.length : Int) + 1 := by omega
      rw [hx]
      clear hx hlt hk
      go_wp2_with fail
      go_loopw [12, 13, 14, 15] (fun i _ _ _ wr => ∃ k q : Nat, i = .int .i64 ((k : Int) - 1) ∧ k ≤ t.size + 3 ∧ wr = w1.drewN q) (fun i _ _ _ _ => t.size + 3 - ((intOf i) + 1).toNat)
      case atStart => exact ⟨0, q, rfl, by omega, rfl⟩
      case round =>
        obtain ⟨k, q, rfl, hk, rfl⟩ := hrel
        by_cases hlt : k < t.size + 3
        · obtain ⟨x, hx⟩ : ∃ x, (k : Int) - 1 = x := ⟨_, rfl⟩
          have hx0 : -1 ≤ x := by omega
          have hx1 : x ≤ (t.size : Int) + 1 := by omega
          rw [hx]
          have HX := Lib.hid hx
          clear hx
          have M1 := Lib.hid (MI.out x q)
          have R1 := Lib.hid (fun q2 => RI.out x q2)
          have hib := indexI_bd l x
          have hic := has_index l x
          obtain ⟨y, hy⟩ : ∃ y, indexI l x = y := ⟨_, rfl⟩
          rw [hy] at M1 R1 hib hic
          rw [hic] at M1
          clear hy hic
          by_cases hy0 : 0 ≤ y
          · rw [decide_eq_true hy0, Int.max_eq_left hy0] at M1
            go_wp2_with fail
            refine M1.out.mono ?_
            rintro e w' ⟨rfl, q2, rfl⟩
            rw [World.drewN_drewN]
            go_wp2_with fail
            refine (R1.out _).mono ?_
            rintro e w' ⟨rfl, rfl⟩
            go_wp2
            go_roundw
            case rel => exact ⟨k + 1, _, by have := HX.out; congr 1; omega, by omega, rfl⟩
            case measure => have := HX.out; simp [intOf]; omega
          · obtain rfl : y = -1 := by omega
            rw [decide_eq_false hy0, show max (-1 : Int) 0 = 0 by omega] at M1
            go_wp2_with fail
            refine M1.out.mono ?_
            rintro e w' ⟨rfl, q2, rfl⟩
            rw [World.drewN_drewN]
            go_wp2_with fail
            refine (R1.out _).mono ?_
            rintro e w' ⟨rfl, rfl⟩
            go_wp2
            go_roundw
            case rel => exact ⟨k + 1, _, by have := HX.out; congr 1; omega, by omega, rfl⟩
            case measure => have := HX.out; simp [intOf]; omega
        · obtain rfl : k = t.size + 3 := by omega
          have hx : ((t.size + 3 : Nat) : Int) - 1 = (t.size : Int) + 2 := by omega
          rw [hx]
          clear hx
          have hof : ∀ q, ∃ z bb, Calls Try.prog 38 #[.pointer (some ⟨g, 0, none⟩), .int .i64 n] (w1.drewN q) (fun e w' => e = .returned (.tuple #[.int .i64 z, .bool bb]) ∧ w1.drewN q = w') ∧ ((bb = true ∧ 0 ≤ n ∧ n < (l.length : Int)) ∨ (bb = false ∧ n < 0) ∨ (bb = false ∧ (l.length : Int) ≤ n)) := by
            intro q
            by_cases hin : 0 ≤ n ∧ n < (l.length : Int)
            · obtain ⟨j, rfl⟩ : ∃ j : Nat, n = (j : Int) := ⟨n.toNat, by omega⟩
              exact ⟨_, true, OY.out j (by omega) q, .inl ⟨rfl, hin.1, hin.2⟩⟩
            · refine ⟨0, false, ON.out n (by omega) q, ?_⟩
              by_cases h : n < 0
              · exact .inr (.inl ⟨rfl, h⟩)
              · exact .inr (.inr ⟨rfl, by omega⟩)
          obtain ⟨z, bb, hof, hbb⟩ := hof q
          have OF := Lib.hid hof
          clear hof
          have M1 := Lib.hid (MI.out n q)
          have R1 := Lib.hid (fun q2 => RI.out n q2)
          have hib := indexI_bd l n
          have hic := has_index l n
          obtain ⟨y, hy⟩ : ∃ y, indexI l n = y := ⟨_, rfl⟩
          rw [hy] at M1 R1 hib hic
          rw [hic] at M1
          clear hy hic
          obtain ⟨mx, hmx⟩ : ∃ mx, max y 0 = mx := ⟨_, rfl⟩
          rw [hmx] at M1
          clear hmx
          have hdy : ∃ dy, decide (0 ≤ y) = dy ∧ ((dy = true ∧ 0 ≤ y) ∨ (dy = false ∧ y < 0)) := ⟨_, rfl, by
            by_cases h : 0 ≤ y
            · exact .inl ⟨decide_eq_true h, h⟩
            · exact .inr ⟨decide_eq_false h, by omega⟩⟩
          obtain ⟨dy, hd1, hd2⟩ := hdy
          rw [hd1] at M1
          clear hd1
          have hd3 : decide (0 ≤ y) = dy := by rcases hd2 with ⟨rfl, h⟩ | ⟨rfl, h⟩ <;> simp <;> omega
          have hd4 : decide (n < (l.length : Int)) = decide (n < (l.length : Int)) := rfl
          rcases hbb with ⟨rfl, hb1, hb2⟩ | ⟨rfl, hb1⟩ | ⟨rfl, hb1⟩
          · have hd5 : decide (n < (l.length : Int)) = true := decide_eq_true hb2
            rcases hd2 with ⟨rfl, hd2⟩ | ⟨rfl, hd2⟩
            all_goals
              clear hd4
              go_wp2_with fail
              refine OF.out.mono ?_
              rintro e w' ⟨rfl, rfl⟩
              go_wp2_with fail
              refine M1.out.mono ?_
              rintro e w' ⟨rfl, q2, rfl⟩
              rw [World.drewN_drewN]
              go_wp2_with fail
              refine (R1.out _).mono ?_
              rintro e w' ⟨rfl, rfl⟩
              go_wp2_with fail
              refine (lives4 _).mono ?_
              rintro e w' ⟨rfl, b3⟩
              have B3 := aside ((below_drewN B1.out _).trans (b3.mono B1.out.size))
              clear b3
              go_wp2
              go_ret
              exact ⟨rfl, B3.out⟩
          all_goals
            have hd5 : decide (0 ≤ n) = decide (0 ≤ n) := rfl
            try (have hd6 : decide (n < (l.length : Int)) = false := decide_eq_false (by omega))
            rcases hd2 with ⟨rfl, hd2⟩ | ⟨rfl, hd2⟩
            all_goals
              go_wp2_with fail
              refine OF.out.mono ?_
              rintro e w' ⟨rfl, rfl⟩
              go_wp2_with fail
              refine M1.out.mono ?_
              rintro e w' ⟨rfl, q2, rfl⟩
              rw [World.drewN_drewN]
              go_wp2_with fail
              refine (R1.out _).mono ?_
              rintro e w' ⟨rfl, rfl⟩
              go_wp2_with fail
              refine (lives4 _).mono ?_
              rintro e w' ⟨rfl, b3⟩
              have B3 := aside ((below_drewN B1.out _).trans (b3.mono B1.out.size))
              clear b3
              go_wp2
              go_ret
              exact ⟨rfl, B3.out⟩

end Go.Proofs.Ytaocnnebfnlgiaa
