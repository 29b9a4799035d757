/-
  The walk of PlaceSlices: of each two numbers the two answers are the same.
-/
import Derived.Test.YtaocnnebfnlgiaaSlices
namespace Go.Proofs.Ytaocnnebfnlgiaa
open Go.RowKit

/-- What a round relies on: the map, the places' cells, the numbers' cells. -/
structure PS (W w : World) (g : Nat) (t : ByteArray) (l : List Int) (vb vo A B : Nat) (x0 x1 y0 y1 : Int) : Prop where
  m : MapL w g t l
  v : ∀ j, j < l.length → w.cell? ⟨vb, vo + j, none⟩ = some (.int .i64 (l.getD j 0))
  a0 : w.cell? ⟨A, 0, none⟩ = some (.int .i64 x0)
  a1 : w.cell? ⟨A, 1, none⟩ = some (.int .i64 x1)
  b0 : w.cell? ⟨B, 0, none⟩ = some (.int .i64 y0)
  b1 : w.cell? ⟨B, 1, none⟩ = some (.int .i64 y1)
  below : Below W.heap.size W w
theorem PS.drewN {W w : World} {g : Nat} {t : ByteArray} {l : List Int} {vb vo A B : Nat} {x0 x1 y0 y1 : Int} (h : PS W w g t l vb vo A B x0 x1 y0 y1) (n : Nat) : PS W (w.drewN n) g t l vb vo A B x0 x1 y0 y1 :=
  ⟨h.m.drewN n, h.v, h.a0, h.a1, h.b0, h.b1, below_drewN h.below n⟩
theorem PS.keep {W w w' : World} {g : Nat} {t : ByteArray} {l : List Int} {vb vo A B : Nat} {x0 x1 y0 y1 : Int} (h : PS W w g t l vb vo A B x0 x1 y0 y1) (hb : Below w.heap.size w w') : PS W w' g t l vb vo A B x0 x1 y0 y1 := by
  have k : ∀ {b o : Nat} {v : Value}, w.cell? ⟨b, o, none⟩ = some v → w'.cell? ⟨b, o, none⟩ = some v := by
    intro b o v hc
    have hlt := World.block_lt_of_cell? w _ hc
    rw [hb.cell (p := ⟨b, o, none⟩) hlt]; exact hc
  exact ⟨h.m.below hb (Nat.le_refl _), fun j hj => k (h.v j hj), k h.a0, k h.a1, k h.b0, k h.b1, h.below.trans (hb.mono h.below.size)⟩
theorem PS.pick {W w : World} {g : Nat} {t : ByteArray} {l : List Int} {vb vo A B : Nat} {x0 x1 y0 y1 : Int} (h : PS W w g t l vb vo A B x0 x1 y0 y1) (k : Nat) (hk : k < 2)
    (hx0 : -9223372036854775808 ≤ x0 ∧ x0 ≤ 9223372036854775807) (hx1 : -9223372036854775808 ≤ x1 ∧ x1 ≤ 9223372036854775807) (hy0 : -9223372036854775808 ≤ y0 ∧ y0 ≤ 9223372036854775807) (hy1 : -9223372036854775808 ≤ y1 ∧ y1 ≤ 9223372036854775807) :
    ∃ x y : Int, w.cell? ⟨A, k, none⟩ = some (.int .i64 x) ∧ w.cell? ⟨B, k, none⟩ = some (.int .i64 y) ∧ -9223372036854775808 ≤ x ∧ x ≤ 9223372036854775807 ∧ -9223372036854775808 ≤ y ∧ y ≤ 9223372036854775807 := by
  have hh : k = 0 ∨ k = 1 := by omega
  rcases hh with rfl | rfl
  · exact ⟨x0, y0, h.a0, h.b0, hx0.1, hx0.2, hy0.1, hy0.2⟩
  · exact ⟨x1, y1, h.a1, h.b1, hx1.1, hx1.2, hy1.1, hy1.2⟩

set_option maxRecDepth 100000 in
set_option maxHeartbeats 8000000 in
theorem placeSlices_walk (s : ByteArray) (a b : Int) (W : World) (hs : s.size ≤ 9223372036854775807) (ha0 : -9223372036854775808 ≤ a) (ha1 : a ≤ 9223372036854775807) (hb0 : -9223372036854775808 ≤ b) (hb1 : b ≤ 9223372036854775807) :
    Calls Try.prog 11 #[.string s, .int .i64 a, .int .i64 b] W fun e w' => e = .returned (.bool true) ∧ Below W.heap.size W w' := by
  have BE := Lib.hid (begin_any s W hs)
  have hf := fewS_le s 40
  obtain ⟨t, ht⟩ : ∃ t, fewS s 40 = t := ⟨_, rfl⟩
  rw [ht] at BE hf
  clear ht
  have HO := Lib.hid (okS_of t (by omega))
  obtain ⟨l, hl⟩ : ∃ l, cstarts t = l := ⟨_, rfl⟩
  rw [hl] at BE HO
  clear hl
  have hp := HO.out.ok.pos
  have hq := HO.out.ok.small
  have AA := Lib.hid (fun W : World => around_any a 43 W ha0 ha1 (by omega) (by omega))
  have AB := Lib.hid (fun W : World => around_any b 43 W hb0 hb1 (by omega) (by omega))
  have bda := aroundI_bd a 43 (by omega)
  have bdb := aroundI_bd b 43 (by omega)
  obtain ⟨a1, hA1⟩ : ∃ a1, aroundI a 43 = a1 := ⟨_, rfl⟩
  obtain ⟨b1, hB1⟩ : ∃ b1, aroundI b 43 = b1 := ⟨_, rfl⟩
  rw [hA1] at AA bda
  rw [hB1] at AB bdb
  clear hA1 hB1
  obtain ⟨bda0, bda1⟩ := bda
  obtain ⟨bdb0, bdb1⟩ := bdb
  go_enter Try.func11, Try.ntmps11
  go_wp2_with fail
  refine BE.out.mono ?_
  rintro e w1 ⟨g, v, rfl, m1, i1, b1⟩
  obtain ⟨vb, vo, vc, rfl, hv1, hv2, VC⟩ := i1.cells_ hp
  have M1 := Lib.hid m1
  have B1 := aside b1
  clear m1 i1 b1
  go_wp2_with fail
  refine (AA.out _).mono ?_
  rintro e w' ⟨rfl, rfl⟩
  go_wp2_with fail
  refine (AB.out _).mono ?_
  rintro e w' ⟨rfl, rfl⟩
  go_wp2_with fail
  have hbb : w1.heap.size < w1.heap.size + 1 := by omega
  go_loopw [12] (fun i wr => ∃ k : Nat, i = .int .i64 k ∧ k ≤ 2 ∧ Aside (PS W wr g t l vb vo w1.heap.size (w1.heap.size + 1) a (a1 - 1) b (b1 - 1))) (fun i _ => 2 - (intOf i).toNat)
  case atStart =>
    refine ⟨0, rfl, by omega, ?_⟩
    have hlt : ∀ {p o : Nat} {v : Value}, w1.cell? ⟨p, o, none⟩ = some v → ∀ X Y, ((w1.alloc X).alloc Y).cell? ⟨p, o, none⟩ = some v := by
      intro p o v hc X Y
      have h := World.block_lt_of_cell? w1 _ hc
      rw [World.cell?_alloc_lt _ Y ⟨p, o, none⟩ (by have h2 : p < w1.heap.size := h; show p < (w1.alloc X).heap.size; simp; omega), World.cell?_alloc_lt w1 X ⟨p, o, none⟩ h]; exact hc
    refine ⟨(M1.out.alloc _).alloc _, fun j hj => hlt (VC.out j hj) _ _, ?_, ?_, ?_, ?_, (B1.out.alloc B1.out.size _).alloc (by simp; have := B1.out.size; omega) _⟩
    · rw [World.cell?_alloc_lt _ _ ⟨w1.heap.size, 0, none⟩ (by simp)]; simp [World.cell?_alloc_new]
    · rw [World.cell?_alloc_lt _ _ ⟨w1.heap.size, 1, none⟩ (by simp)]; simp [World.cell?_alloc_new]
    · have := @World.cell?_alloc_new; go_simp
    · go_simp
  case round =>
    obtain ⟨k, rfl, hk, HX⟩ := hrel
    by_cases hlt : k < 2
    · obtain ⟨x, y, cx, cy, x0, x1, y0, y1⟩ := HX.out.pick k hlt ⟨ha0, ha1⟩ ⟨by omega, by omega⟩ ⟨hb0, hb1⟩ ⟨by omega, by omega⟩
      have SY := Lib.hid (fun (i j : Nat) (hij : i ≤ j) (hj : j < l.length) => slice_yes g t l i j wr HX.out.m HO.out hij hj)
      have SN := Lib.hid (fun (h : x < 0 ∨ y < x ∨ (l.length : Int) ≤ y) => slice_no g t l x y wr HX.out.m HO.out.ok h)
      have CY := Lib.hid (fun (i q : Nat) (hi : i + 1 < l.length) => cluster_yes g t l i (wr.drewN q) (HX.out.m.drewN q) HO.out hi)
      have CN := Lib.hid (fun (q : Nat) (h : x < 0 ∨ (l.length : Int) ≤ x + 1) => cluster_no g t l x (wr.drewN q) (HX.out.m.drewN q) HO.out.ok h)
      by_cases hin : 0 ≤ x ∧ x ≤ y ∧ y < (l.length : Int)
      · obtain ⟨i, rfl⟩ : ∃ i : Nat, x = (i : Int) := ⟨x.toNat, by omega⟩
        obtain ⟨j, rfl⟩ : ∃ j : Nat, y = (j : Int) := ⟨y.toNat, by omega⟩
        have hij : i ≤ j := by omega
        have hj : j < l.length := by omega
        have h1 : (i : Int) ≤ (j : Int) := by omega
        have h2 : (j : Int) < (l.length : Int) := by omega
        have h3 : (i : Int) < (l.length : Int) := by omega
        have S1 := Lib.hid (SY.out i j hij hj)
        have ci := HX.out.v i (by omega)
        have cj := HX.out.v j hj
        have l0 := HO.out.low i (by omega)
        have l1 := HO.out.high j hj
        have l2 := up_le HO.out.ok.up i j hij hj
        have hcut : cutS t l i j = t.extract (l.getD i 0).toNat (l.getD j 0).toNat := rfl
        by_cases hmay : i + 1 < l.length
        · have C1 := Lib.hid (fun q => CY.out i q hmay)
          have cn := HX.out.v (i + 1) hmay
          have n1 := HO.out.high (i + 1) hmay
          have n2 := up_le HO.out.ok.up i (i + 1) (by omega) hmay
          have hcut2 : cutS t l i (i + 1) = t.extract (l.getD i 0).toNat (l.getD (i + 1) 0).toNat := rfl
          have h4 : (i : Int) < (l.length : Int) - 1 := by omega
          have h5 : (i : Int) + 1 < (l.length : Int) := by omega
          have hw1 : IntKind.i64.wrap ((i : Int) + 1) = (i : Int) + 1 := wrap_in _ (by omega) (by omega)
          have hw2 : (0 : Int) ≤ (i : Int) + 1 := by omega
          have hw3 : ((i : Int) + 1).toNat = i + 1 := by omega
          obtain ⟨p, hp1⟩ : ∃ p, l.getD i 0 = p := ⟨_, rfl⟩
          obtain ⟨r, hr1⟩ : ∃ r, l.getD j 0 = r := ⟨_, rfl⟩
          obtain ⟨z, hz1⟩ : ∃ z, l.getD (i + 1) 0 = z := ⟨_, rfl⟩
          rw [hp1] at ci l0 l2 hcut n2 hcut2
          rw [hr1] at cj l1 l2 hcut
          rw [hz1] at cn n1 n2 hcut2
          rw [hcut] at S1
          rw [hcut2] at C1
          have HW1 := Lib.hid hw1
          have HW3 := Lib.hid hw3
          clear hcut hcut2 hp1 hr1 hz1 hin hw1 hw3
          go_wp2_with fail
          refine S1.out.mono ?_
          rintro e w' ⟨rfl, q, rfl⟩
          go_wp2_with fail
          go_quiet (fail)
          go_wp2_with fail
          refine (C1.out _).mono ?_
          rintro e w' ⟨rfl, q2, rfl⟩
          go_wp2_with fail
          have hw1 := HW1.out
          have hw3 := HW3.out
          go_quiet (fail)
          clear hw1 hw3
          go_wp2
          go_roundw
          case rel => exact ⟨k + 1, by go_num, by omega, HX.out.drewN _⟩
          case measure => simp [intOf]; omega
        · have C1 := Lib.hid (fun q => CN.out q (.inr (by omega)))
          have h4 : (l.length : Int) - 1 ≤ (i : Int) := by omega
          obtain ⟨p, hp1⟩ : ∃ p, l.getD i 0 = p := ⟨_, rfl⟩
          obtain ⟨r, hr1⟩ : ∃ r, l.getD j 0 = r := ⟨_, rfl⟩
          rw [hp1] at ci l0 l2 hcut
          rw [hr1] at cj l1 l2 hcut
          rw [hcut] at S1
          clear hcut hp1 hr1 hin
          go_wp2_with fail
          refine S1.out.mono ?_
          rintro e w' ⟨rfl, q, rfl⟩
          go_wp2_with fail
          go_quiet (fail)
          go_wp2_with fail
          refine (C1.out _).mono ?_
          rintro e w' ⟨rfl, rfl⟩
          go_wp2
          go_roundw
          case rel => exact ⟨k + 1, by go_num, by omega, HX.out.drewN _⟩
          case measure => simp [intOf]; omega
      · have S1 := Lib.hid (SN.out (by omega))
        by_cases hmay : 0 ≤ x ∧ x + 1 < (l.length : Int)
        · obtain ⟨i, rfl⟩ : ∃ i : Nat, x = (i : Int) := ⟨x.toNat, by omega⟩
          have hm2 : i + 1 < l.length := by omega
          have C1 := Lib.hid (fun q => CY.out i q hm2)
          have ci := HX.out.v i (by omega)
          have cn := HX.out.v (i + 1) hm2
          have l0 := HO.out.low i (by omega)
          have n1 := HO.out.high (i + 1) hm2
          have n2 := up_le HO.out.ok.up i (i + 1) (by omega) hm2
          have hcut2 : cutS t l i (i + 1) = t.extract (l.getD i 0).toNat (l.getD (i + 1) 0).toNat := rfl
          have h3 : (i : Int) < (l.length : Int) := by omega
          have h4 : (i : Int) < (l.length : Int) - 1 := by omega
          have h5 : (i : Int) + 1 < (l.length : Int) := by omega
          have hw1 : IntKind.i64.wrap ((i : Int) + 1) = (i : Int) + 1 := wrap_in _ (by omega) (by omega)
          have hw2 : (0 : Int) ≤ (i : Int) + 1 := by omega
          have hw3 : ((i : Int) + 1).toNat = i + 1 := by omega
          obtain ⟨p, hp1⟩ : ∃ p, l.getD i 0 = p := ⟨_, rfl⟩
          obtain ⟨z, hz1⟩ : ∃ z, l.getD (i + 1) 0 = z := ⟨_, rfl⟩
          rw [hp1] at ci l0 n2 hcut2
          rw [hz1] at cn n1 n2 hcut2
          rw [hcut2] at C1
          have HW1 := Lib.hid hw1
          have HW3 := Lib.hid hw3
          have hcase : y < (i : Int) ∨ ((i : Int) ≤ y ∧ (l.length : Int) ≤ y) := by omega
          clear hcut2 hp1 hz1 hin hw1 hw3 hmay
          rcases hcase with hc1 | ⟨hc1, hc2⟩
          all_goals
            go_wp2_with fail
            refine S1.out.mono ?_
            rintro e w' ⟨rfl, rfl⟩
            go_wp2_with fail
            refine (C1.out 0).mono ?_
            rintro e w' ⟨rfl, q2, rfl⟩
            go_wp2_with fail
            have hw1 := HW1.out
            have hw3 := HW3.out
            go_quiet (fail)
            clear hw1 hw3
            go_wp2
            go_roundw
            case rel => exact ⟨k + 1, by go_num, by omega, by first | exact HX.out.drewN _ | exact (HX.out.drewN _).drewN _⟩
            case measure => simp [intOf]; omega
        · have C1 := Lib.hid (fun q => CN.out q (by omega))
          have hcase : x < 0 ∨ (0 ≤ x ∧ (l.length : Int) - 1 ≤ x ∧ (y < x ∨ (x ≤ y ∧ (l.length : Int) ≤ y))) := by omega
          clear hin hmay
          rcases hcase with hc1 | ⟨hc1, hc2, hc3 | ⟨hc3, hc4⟩⟩
          all_goals
            go_wp2_with fail
            refine S1.out.mono ?_
            rintro e w' ⟨rfl, rfl⟩
            go_wp2_with fail
            refine (C1.out 0).mono ?_
            rintro e w' ⟨rfl, rfl⟩
            go_wp2
            go_roundw
            case rel => exact ⟨k + 1, by go_num, by omega, HX⟩
            case measure => simp [intOf]; omega
    · obtain rfl : k = 2 := by omega
      go_wp2_with fail
      refine (lives4 _).mono ?_
      rintro e w' ⟨rfl, b3⟩
      have B3 := aside (HX.out.keep b3).below
      clear b3
      go_wp2
      go_ret
      exact ⟨rfl, B3.out⟩

end Go.Proofs.Ytaocnnebfnlgiaa
