/-
  The walk of PlaceSplices: what stands in the place of clusters stands there.
-/
import Derived.Test.YtaocnnebfnlgiaaSplice
import Derived.Test.YtaocnnebfnlgiaaSlicesW
namespace Go.Proofs.Ytaocnnebfnlgiaa
open Go.RowKit

set_option maxRecDepth 100000 in
set_option maxHeartbeats 8000000 in
theorem placeSplices_walk (s : ByteArray) (a b : Int) (t0 : ByteArray) (W : World) (hs : s.size ≤ 9223372036854775807) (ha0 : -9223372036854775808 ≤ a) (ha1 : a ≤ 9223372036854775807) (hb0 : -9223372036854775808 ≤ b) (hb1 : b ≤ 9223372036854775807) (ht0 : t0.size ≤ 9223372036854775807) :
    Calls Try.prog 10 #[.string s, .int .i64 a, .int .i64 b, .string t0] W fun e w' => e = .returned (.bool true) ∧ Below W.heap.size W w' := by
  have BE := Lib.hid (begin_any s W hs)
  have hf := fewS_le s 40
  obtain ⟨t, ht⟩ : ∃ t, fewS s 40 = t := ⟨_, rfl⟩
  rw [ht] at BE hf
  clear ht
  have HO := Lib.hid (okS_of t (by omega))
  obtain ⟨l, hl⟩ : ∃ l, cstarts t = l := ⟨_, rfl⟩
  rw [hl] at BE HO
  clear hl
  have hp := HO.out.ok.pos
  have hq := HO.out.ok.small
  have FT := Lib.hid (fun W : World => few_any t0 12 W ht0 (by omega))
  have hft := fewS_le t0 12
  obtain ⟨u, hu⟩ : ∃ u, fewS t0 12 = u := ⟨_, rfl⟩
  rw [hu] at FT hft
  clear hu
  have AA := Lib.hid (fun W : World => around_any a 43 W ha0 ha1 (by omega) (by omega))
  have AB := Lib.hid (fun W : World => around_any b 43 W hb0 hb1 (by omega) (by omega))
  have bda := aroundI_bd a 43 (by omega)
  have bdb := aroundI_bd b 43 (by omega)
  obtain ⟨a1, hA1⟩ : ∃ a1, aroundI a 43 = a1 := ⟨_, rfl⟩
  obtain ⟨b1, hB1⟩ : ∃ b1, aroundI b 43 = b1 := ⟨_, rfl⟩
  rw [hA1] at AA bda
  rw [hB1] at AB bdb
  clear hA1 hB1
  obtain ⟨bda0, bda1⟩ := bda
  obtain ⟨bdb0, bdb1⟩ := bdb
  go_enter Try.func10, Try.ntmps10
  go_wp2_with fail
  refine BE.out.mono ?_
  rintro e w1 ⟨g, v, rfl, m1, i1, b1⟩
  obtain ⟨vb, vo, vc, rfl, hv1, hv2, VC⟩ := i1.cells_ hp
  have M1 := Lib.hid m1
  have B1 := aside b1
  clear m1 i1 b1
  go_wp2_with fail
  refine (FT.out _).mono ?_
  rintro e w' ⟨rfl, rfl⟩
  go_wp2_with fail
  refine (AA.out _).mono ?_
  rintro e w' ⟨rfl, rfl⟩
  go_wp2_with fail
  refine (AB.out _).mono ?_
  rintro e w' ⟨rfl, rfl⟩
  go_wp2_with fail
  have hbb : w1.heap.size < w1.heap.size + 1 := by omega
  go_loopw [14, 15, 16, 17, 18, 19, 20] (fun i _ _ _ _ _ _ wr => ∃ k : Nat, i = .int .i64 k ∧ k ≤ 2 ∧ Aside (PS W wr g t l vb vo w1.heap.size (w1.heap.size + 1) a (a1 - 1) b (b1 - 1))) (fun i _ _ _ _ _ _ _ => 2 - (intOf i).toNat)
  case atStart =>
    refine ⟨0, rfl, by omega, ?_⟩
    have hlt : ∀ {p o : Nat} {v : Value}, w1.cell? ⟨p, o, none⟩ = some v → ∀ X Y, ((w1.alloc X).alloc Y).cell? ⟨p, o, none⟩ = some v := by
      intro p o v hc X Y
      have h := World.block_lt_of_cell? w1 _ hc
      rw [World.cell?_alloc_lt _ Y ⟨p, o, none⟩ (by have h2 : p < w1.heap.size := h; show p < (w1.alloc X).heap.size; simp; omega), World.cell?_alloc_lt w1 X ⟨p, o, none⟩ h]; exact hc
    refine ⟨(M1.out.alloc _).alloc _, fun j hj => hlt (VC.out j hj) _ _, ?_, ?_, ?_, ?_, (B1.out.alloc B1.out.size _).alloc (by simp; have := B1.out.size; omega) _⟩
    · rw [World.cell?_alloc_lt _ _ ⟨w1.heap.size, 0, none⟩ (by simp)]; simp [World.cell?_alloc_new]
    · rw [World.cell?_alloc_lt _ _ ⟨w1.heap.size, 1, none⟩ (by simp)]; simp [World.cell?_alloc_new]
    · have := @World.cell?_alloc_new; go_simp
    · go_simp
  case round =>
    obtain ⟨k, rfl, hk, HX⟩ := hrel
    by_cases hlt : k < 2
    · obtain ⟨x, y, cx, cy, x0, x1, y0, y1⟩ := HX.out.pick k hlt ⟨ha0, ha1⟩ ⟨by omega, by omega⟩ ⟨hb0, hb1⟩ ⟨by omega, by omega⟩
      have SY := Lib.hid (fun (i j : Nat) (hij : i ≤ j) (hj : j < l.length) => splice_yes g t l i j u wr HX.out.m HO.out (by omega) (by omega) hij hj)
      have SN := Lib.hid (fun (h : x < 0 ∨ y < x ∨ (l.length : Int) ≤ y) => splice_no g t l x y u wr HX.out.m HO.out.ok h)
      by_cases hin : 0 ≤ x ∧ x ≤ y ∧ y < (l.length : Int)
      · obtain ⟨i, rfl⟩ : ∃ i : Nat, x = (i : Int) := ⟨x.toNat, by omega⟩
        obtain ⟨j, rfl⟩ : ∃ j : Nat, y = (j : Int) := ⟨y.toNat, by omega⟩
        have hij : i ≤ j := by omega
        have hj : j < l.length := by omega
        have h1 : (i : Int) ≤ (j : Int) := by omega
        have h2 : (j : Int) < (l.length : Int) := by omega
        have h3 : (i : Int) < (l.length : Int) := by omega
        have S1 := Lib.hid (SY.out i j hij hj)
        have ci := HX.out.v i (by omega)
        have cj := HX.out.v j hj
        have l0 := HO.out.low i (by omega)
        have l1 := HO.out.high j hj
        have l2 := up_le HO.out.ok.up i j hij hj
        have hcut : spliceS t l i j u = t.extract 0 (l.getD i 0).toNat ++ u ++ t.extract (l.getD j 0).toNat t.size := rfl
        have hsz := splice_size t l i j u
        obtain ⟨p, hp1⟩ : ∃ p, l.getD i 0 = p := ⟨_, rfl⟩
        obtain ⟨r, hr1⟩ : ∃ r, l.getD j 0 = r := ⟨_, rfl⟩
        rw [hp1] at ci l0 l2 hcut
        rw [hr1] at cj l1 l2 hcut
        obtain ⟨want, hwant⟩ : ∃ want, spliceS t l i j u = want := ⟨_, rfl⟩
        rw [hwant] at S1 hsz hcut
        have HWO := Lib.hid (okL_of want (by omega))
        have RS := Lib.hid (fun W : World => rcstarts_any want W (by omega))
        obtain ⟨wl, hwl⟩ : ∃ wl, cstarts want = wl := ⟨_, rfl⟩
        rw [hwl] at S1 HWO RS
        have hwp := HWO.out.pos
        have hwq := HWO.out.small
        have HCUT := Lib.hid hcut
        have hz1 : (t.extract 0 p.toNat).size ≤ t.size := size_ext_le _ _ _
        have hz2 : (t.extract r.toNat t.size).size ≤ t.size := size_ext_le _ _ _
        have cat1 : ∀ W : World, (Op.stringOp .add (t.extract 0 p.toNat) u).run Try.prog W = .ok (.string (t.extract 0 p.toNat ++ u)) W := fun W => run_string_add_sum _ _ _ (by omega)
        have cat2 : ∀ W : World, (Op.stringOp .add (t.extract 0 p.toNat ++ u) (t.extract r.toNat t.size)).run Try.prog W = .ok (.string want) W := fun W => by
          rw [hcut]; exact run_string_add_sum _ _ _ (by rw [size_app]; omega)
        have hp2 : p ≤ (t.size : Int) := by omega
        have hr2 : 0 ≤ r := by omega
        clear hp1 hr1 hin hwl hwant hcut hsz hz1 hz2
        go_wp2_with fail
        refine S1.out.mono ?_
        rintro e w2 ⟨g2, rfl, m2, b2⟩
        have ci2 : w2.cell? ⟨vb, vo + i, none⟩ = some (.int .i64 p) := by rw [b2.cell (p := ⟨vb, vo + i, none⟩) (World.block_lt_of_cell? wr _ ci)]; exact ci
        have cj2 : w2.cell? ⟨vb, vo + j, none⟩ = some (.int .i64 r) := by rw [b2.cell (p := ⟨vb, vo + j, none⟩) (World.block_lt_of_cell? wr _ cj)]; exact cj
        have M2 := Lib.hid m2
        have B2 := aside (HX.out.keep b2)
        clear m2 b2
        go_wp2_with fail
        go_quiet (fail)
        go_wp2_with fail
        refine (mtext_any g2 want wl _ (M2.out.drewN _)).mono ?_
        rintro e w' ⟨rfl, rfl⟩
        go_wp2_with fail
        refine (show Calls Try.prog 43 #[.pointer (some ⟨g2, 0, none⟩)] _ fun e w' => e = .returned (.int .i64 ((wl.length : Int) - 1)) ∧ _ = w' from mlen_any g2 want wl _ (M2.out.drewN _) HWO.out).mono ?_
        rintro e w' ⟨rfl, rfl⟩
        go_wp2_with fail
        refine (RS.out _).mono ?_
        rintro e w3 ⟨v3, rfl, o3, b3⟩
        have B3 := aside ((B2.out.drewN _).keep b3)
        obtain ⟨v3b, v3o, v3c, rfl, hv31, hv32, _⟩ := (IsInts.of_own o3).cells_ hwp
        clear o3 b3
        go_wp2
        go_roundw
        case rel => exact ⟨k + 1, by go_num, by omega, B3.out⟩
        case measure => simp [intOf]; omega
      · have S1 := Lib.hid (SN.out (by omega))
        have hcase : x < 0 ∨ (0 ≤ x ∧ (y < x ∨ (x ≤ y ∧ (l.length : Int) ≤ y))) := by omega
        clear hin
        rcases hcase with hc1 | ⟨hc1, hc3 | ⟨hc3, hc4⟩⟩
        all_goals
          go_wp2_with fail
          refine S1.out.mono ?_
          rintro e w' ⟨rfl, rfl⟩
          go_wp2
          go_roundw
          case rel => exact ⟨k + 1, by go_num, by omega, HX⟩
          case measure => simp [intOf]; omega
    · obtain rfl : k = 2 := by omega
      go_wp2_with fail
      refine (mtext_any g t l _ HX.out.m).mono ?_
      rintro e w' ⟨rfl, rfl⟩
      go_wp2_with fail
      refine (show Calls Try.prog 43 #[.pointer (some ⟨g, 0, none⟩)] _ fun e w' => e = .returned (.int .i64 ((l.length : Int) - 1)) ∧ _ = w' from mlen_any g t l _ HX.out.m HO.out.ok).mono ?_
      rintro e w' ⟨rfl, rfl⟩
      go_wp2_with fail
      refine (lives4 _).mono ?_
      rintro e w' ⟨rfl, b3⟩
      have B3 := aside (HX.out.keep b3).below
      clear b3
      go_wp2
      go_ret
      exact ⟨rfl, B3.out⟩

end Go.Proofs.Ytaocnnebfnlgiaa
