/-
  Contracts: blank of a cluster, Word; the reference's blank and Word.
-/
import Derived.Test.YtaocnnebfnlgiaaDoorSlices
import Derived.Test.YtaocnnebfnlgiaaDoorStartsR
import Derived.Test.YtaocnnebfnlgiaaDoorUtf2
import Derived.Test.YtaocnnebfnlgiaaDoorBlank
import Derived.Test.YtaocnnebfnlgiaaDoorWordL
namespace Go.Proofs.YtaocnnebfnlgiaaDoor
open Go.RowKit

/-- Is a text's first character blank? -/
def blankS (s : ByteArray) : Bool := blankB (firstS s).1
theorem tabs_drewN {w : World} (h : Lib.Utf8Tabs 0 1 w) (n : Nat) : Lib.Utf8Tabs 0 1 (w.drewN n) := tabs_below h (below_drewN (Below.refl w.heap.size w) n) (tabs_size h)
theorem tabs_next {w w' : World} (h : Lib.Utf8Tabs 0 1 w) (hb : Below w.heap.size w w') : Lib.Utf8Tabs 0 1 w' := tabs_below h hb (tabs_size h)

set_option maxHeartbeats 1000000 in
theorem mblank_any (g : Nat) (s : ByteArray) (l : List Int) (i : Nat) (w : World) (hm : MapL w g s l) (hl : OkS s l) (hi : i + 1 < l.length) (hT : Lib.Utf8Tabs 0 1 w) :
    Calls Tryd.prog 14 #[.pointer (some ⟨g, 0, none⟩), .int .i64 (i : Int)] w fun e w' => e = .returned (.bool (blankS (cutS s l i (i + 1)))) ∧ Below w.heap.size w w' := by
  have CY := Lib.hid (cluster_yes g s l i w hm hl hi)
  obtain ⟨x, hx⟩ : ∃ x, cutS s l i (i + 1) = x := ⟨_, rfl⟩
  rw [hx] at CY ⊢
  have hu := fun q : Nat => ufirst_any x (w.drewN q) (tabs_drewN hT q)
  obtain ⟨⟨r1, r2, r3⟩, hr⟩ : ∃ r, firstS x = r := ⟨_, rfl⟩
  have hbl : blankS x = blankB r1 := by unfold blankS; rw [hr]
  rw [hr] at hu
  simp only [tup3] at hu
  have UF := Lib.hid hu
  rw [hbl]
  clear hu hbl hr hx hm hl hT
  go_enter Tryd.func14, Tryd.ntmps14
  go_wp2_with fail
  refine CY.out.mono ?_
  rintro e w1 ⟨rfl, q, rfl⟩
  go_wp2_with fail
  refine (UF.out q).mono ?_
  rintro e w2 ⟨rfl, b2⟩
  have B2 := aside ((below_drewN (Below.refl w.heap.size w) q).trans b2)
  clear b2
  go_wp2_with fail
  refine (blank_any r1 _).mono ?_
  rintro e w3 ⟨rfl, rfl⟩
  go_wp2
  go_ret
  exact ⟨rfl, B2.out⟩

set_option maxHeartbeats 1000000 in
theorem rblankS_any (x : ByteArray) (w : World) (hs : x.size ≤ 9223372036854775807) :
    Calls Tryd.prog 16 #[.string x] w fun e w' => e = .returned (.bool (blankS x)) ∧ Below w.heap.size w w' := by
  have hu := rfirst_any x w hs
  obtain ⟨⟨r1, r2, r3⟩, hr⟩ : ∃ r, firstS x = r := ⟨_, rfl⟩
  have hbl : blankS x = blankB r1 := by unfold blankS; rw [hr]
  rw [hr] at hu
  simp only [tup3] at hu
  have UF := Lib.hid hu
  rw [hbl]
  clear hu hbl hr
  go_enter Tryd.func16, Tryd.ntmps16
  go_wp2_with fail
  refine UF.out.mono ?_
  rintro e w2 ⟨rfl, b2⟩
  have B2 := aside b2
  clear b2
  go_wp2_with fail
  refine (rblank_any r1 _).mono ?_
  rintro e w3 ⟨rfl, b3⟩
  have B3 := aside (B2.out.trans (b3.mono B2.out.size))
  clear b3
  go_wp2
  go_ret
  exact ⟨rfl, B3.out⟩

/-- Which clusters are blank. -/
def blankAt (s : ByteArray) (l : List Int) (i : Nat) : Bool := blankS (cutS s l i (i + 1))

/-- What Word's rounds rely on. -/
structure WS (w wr : World) (g : Nat) (s : ByteArray) (l : List Int) (B : Nat) : Prop where
  m : MapL wr g s l
  t : Lib.Utf8Tabs 0 1 wr
  c0 : wr.cell? ⟨B, 0, none⟩ = some (.bool true)
  c1 : wr.cell? ⟨B, 1, none⟩ = some (.bool false)
  below : Below w.heap.size w wr
theorem WS.keep {w wr w' : World} {g : Nat} {s : ByteArray} {l : List Int} {B : Nat} (h : WS w wr g s l B) (hb : Below wr.heap.size wr w') : WS w w' g s l B := by
  have k : ∀ {b o : Nat} {v : Value}, wr.cell? ⟨b, o, none⟩ = some v → w'.cell? ⟨b, o, none⟩ = some v := by
    intro b o v hc
    have hlt := World.block_lt_of_cell? wr _ hc
    rw [hb.cell (p := ⟨b, o, none⟩) hlt]; exact hc
  exact ⟨h.m.below hb (Nat.le_refl _), tabs_next h.t hb, k h.c0, k h.c1, h.below.trans (hb.mono h.below.size)⟩
theorem WS.pick {w wr : World} {g : Nat} {s : ByteArray} {l : List Int} {B : Nat} (h : WS w wr g s l B) (k : Nat) (hk : k < 2) : wr.cell? ⟨B, k, none⟩ = some (.bool (k == 0)) := by
  have hh : k = 0 ∨ k = 1 := by omega
  rcases hh with rfl | rfl
  · exact h.c0
  · exact h.c1

/-- How far a word's end is behind so many rounds. -/
def phR (f : Nat → Bool) (n i : Nat) : Nat → Nat
  | 0 => i
  | k + 1 => goR f n (k == 0) (phR f n i k)
def phL (f : Nat → Bool) (i : Nat) : Nat → Nat
  | 0 => i
  | k + 1 => goL f (k == 0) (phL f i k)
theorem phR_two (f : Nat → Bool) (n i : Nat) : phR f n i 2 = wordR f n i := rfl
theorem phL_two (f : Nat → Bool) (i : Nat) : phL f i 2 = wordL f i := rfl
theorem phR_le (f : Nat → Bool) (n i : Nat) (h : i ≤ n) : ∀ k, phR f n i k ≤ n
  | 0 => h
  | k + 1 => (goR_bd f n _ _ (phR_le f n i h k)).2
theorem phL_le (f : Nat → Bool) (n i : Nat) (h : i ≤ n) : ∀ k, phL f i k ≤ n
  | 0 => h
  | k + 1 => Nat.le_trans (goL_le f _ _) (phL_le f n i h k)

set_option maxRecDepth 100000 in
set_option maxHeartbeats 4000000 in
theorem mwordR_any (g : Nat) (s : ByteArray) (l : List Int) (i : Int) (w : World) (hm : MapL w g s l) (hl : OkS s l) (hT : Lib.Utf8Tabs 0 1 w) (hi0 : -9223372036854775808 ≤ i) (hi1 : i ≤ 9223372036854775807) :
    Calls Tryd.prog 6 #[.pointer (some ⟨g, 0, none⟩), .int .i64 i, .bool true] w fun e w' => e = .returned (.int .i64 (wordR (blankAt s l) (l.length - 1) (clampN i (l.length - 1)) : Nat)) ∧ Below w.heap.size w w' := by
  have ML := Lib.hid (fun (W : World) (h : MapL W g s l) => show Calls Tryd.prog 13 #[.pointer (some ⟨g, 0, none⟩)] W fun e w' => e = .returned (.int .i64 ((l.length : Int) - 1)) ∧ W = w' from mlen_any g s l W h hl.ok)
  have MB := Lib.hid (fun (W : World) (j : Nat) (hj : j + 1 < l.length) (h : MapL W g s l) (ht : Lib.Utf8Tabs 0 1 W) => mblank_any g s l j W h hl hj ht)
  have hp := hl.ok.pos
  have hq := hl.ok.small
  have HC := Lib.hid (clampN_eq i (l.length - 1))
  have hcl := clampN_le i (l.length - 1)
  obtain ⟨i0, hi0'⟩ : ∃ i0, clampN i (l.length - 1) = i0 := ⟨_, rfl⟩
  rw [hi0'] at HC hcl ⊢
  have M0 := Lib.hid hm
  have T0 := Lib.hid hT
  have HP := Lib.hid (fun k => phR_le (blankAt s l) (l.length - 1) i0 hcl k)
  have HF : Hid (∀ j, blankAt s l j = blankS (cutS s l j (j + 1))) := fun j => rfl
  have H2 := Lib.hid (phR_two (blankAt s l) (l.length - 1) i0)
  have HS : Hid (∀ k, phR (blankAt s l) (l.length - 1) i0 (k + 1) = goR (blankAt s l) (l.length - 1) (k == 0) (phR (blankAt s l) (l.length - 1) i0 k)) := fun k => rfl
  have H0 : Hid (phR (blankAt s l) (l.length - 1) i0 0 = i0) := rfl
  obtain ⟨f, hf⟩ : ∃ f, blankAt s l = f := ⟨_, rfl⟩
  rw [hf] at HP HF H2 HS H0 ⊢
  obtain ⟨n, hn⟩ : ∃ n, l.length = n + 1 := ⟨l.length - 1, by omega⟩
  have hn1 : l.length - 1 = n := by omega
  rw [hn1] at HC hcl HP H2 HS H0 ⊢
  have HN := Lib.hid hn
  rw [hn] at ML
  have hq2 : n ≤ 1000 := by omega
  obtain ⟨P, hP⟩ : ∃ P, phR f n i0 = P := ⟨_, rfl⟩
  rw [hP] at HP H2 HS H0
  clear hm hT hl hf hi0' hn hn1 hP hp hq
  go_enter Tryd.func6, Tryd.ntmps6
  go_wp2_with fail
  refine (ML.out _ M0.out).mono ?_
  rintro e w1 ⟨rfl, rfl⟩
  go_wp2_with fail
  go_loopw [1, 11, 12, 23] (fun a _ _ k wr => ∃ k' : Nat, k = .int .i64 k' ∧ k' ≤ 2 ∧ a = .int .i64 (P k' : Int) ∧ Aside (WS w wr g s l w.heap.size)) (fun _ _ _ k _ => 2 - (intOf k).toNat)
  case atStart =>
    refine ⟨0, rfl, by omega, ?_, (M0.out.alloc _), tabs_next T0.out ((Below.refl _ _).alloc (Nat.le_refl _) _), by simp [World.cell?_alloc_new], by simp [World.cell?_alloc_new], (Below.refl _ _).alloc (Nat.le_refl _) _⟩
    have h1 := HC.out
    have h2 := H0.out
    congr 1
    omega
  case round =>
    obtain ⟨k, rfl, hk, rfl, HX⟩ := hrel
    by_cases hlt : k < 2
    · have ck := HX.out.pick k hlt
      have HSK := Lib.hid (HS.out k)
      have hpk := HP.out k
      obtain ⟨p0, hp0⟩ : ∃ p0, P k = p0 := ⟨_, rfl⟩
      obtain ⟨p1, hp1⟩ : ∃ p1, P (k + 1) = p1 := ⟨_, rfl⟩
      have HP1 := Lib.hid hp1
      rw [hp0] at HSK hpk ⊢
      rw [hp1] at HSK
      obtain ⟨want, hwant⟩ : ∃ want, (k == 0) = want := ⟨_, rfl⟩
      rw [hwant] at ck HSK
      have hkb : decide ((k : Int) < 2) = true := decide_eq_true (by omega)
      clear hp0 hp1 hwant
      go_wp2_with fail
      clear hkb
      obtain ⟨wo, rfl⟩ : ∃ wo : World, wo = wr := ⟨_, rfl⟩
      go_loopw [1, 12] (fun a c wr => ∃ j : Nat, a = .int .i64 (j : Int) ∧ c = .int .i64 (j : Int) ∧ j ≤ n ∧ Hid (goR f n want j = p1) ∧ Aside (WS w wr g s l w.heap.size)) (fun a _ _ => n + 1 - (intOf a).toNat)
      case atStart => exact ⟨p0, rfl, by first | rfl | (congr 1; omega), hpk, HSK.out.symm, HX⟩
      case round =>
        obtain ⟨j, rfl, rfl, hj, HJ, HY⟩ := hrel
        by_cases hjn : j < n
        · have hjl : (j : Int) < (n : Int) + 1 - 1 := by omega
          have hjn2 : (j : Int) < (n : Int) := by omega
          have MBJ := Lib.hid (MB.out wr j (by have := HN.out; omega) HY.out.m HY.out.t)
          have hfj := HF.out j
          obtain ⟨bj, hbj⟩ : ∃ bj, blankS (cutS s l j (j + 1)) = bj := ⟨_, rfl⟩
          rw [hbj] at hfj MBJ
          by_cases hb : bj = want
          · subst hb
            have HJ2 := Lib.hid ((goR_yes f n bj j hjn hfj).symm.trans HJ.out)
            clear hfj hbj
            go_wp2_with fail
            refine (ML.out _ HY.out.m).mono ?_
            rintro e w' ⟨rfl, rfl⟩
            go_wp2_with fail
            refine MBJ.out.mono ?_
            rintro e w2 ⟨rfl, b2⟩
            have HY2 := aside (HY.out.keep b2)
            clear b2
            go_wp2
            go_roundw
            case rel => exact ⟨j + 1, by go_num, by first | go_num | (congr 1; omega), by omega, HJ2.out, HY2⟩
            case measure => simp [intOf]; omega
          · have hb2 : (bj == want) = false := by simpa using hb
            have HJ2 := Lib.hid ((goR_no f n want j (by rw [hfj]; exact hb)).symm.trans HJ.out)
            clear hfj hbj hb
            go_wp2_with fail
            refine (ML.out _ HY.out.m).mono ?_
            rintro e w' ⟨rfl, rfl⟩
            go_wp2_with fail
            refine MBJ.out.mono ?_
            rintro e w2 ⟨rfl, b2⟩
            have HY2 := aside (HY.out.keep b2)
            clear b2
            go_wp2
            go_roundw
            case rel => exact ⟨k + 1, by go_num, by omega, by rw [HP1.out, HJ2.out], HY2⟩
            case measure => simp [intOf]; omega
        · have hjn2 : decide ((j : Int) < (n : Int) + 1 - 1) = false := decide_eq_false (by omega)
          have hjn3 : decide ((j : Int) < (n : Int)) = false := decide_eq_false (by omega)
          have HJ2 := Lib.hid ((goR_end f n want j hjn).symm.trans HJ.out)
          go_wp2_with fail
          refine (ML.out _ HY.out.m).mono ?_
          rintro e w' ⟨rfl, rfl⟩
          go_wp2
          go_roundw
          case rel => exact ⟨k + 1, by go_num, by omega, by rw [HP1.out, HJ2.out], HY⟩
          case measure => simp [intOf]; omega
    · obtain rfl : k = 2 := by omega
      go_wp2
      go_ret
      exact ⟨ret_int (by rw [H2.out]), HX.out.below⟩

set_option maxRecDepth 100000 in
set_option maxHeartbeats 4000000 in
theorem mwordL_any (g : Nat) (s : ByteArray) (l : List Int) (i : Int) (w : World) (hm : MapL w g s l) (hl : OkS s l) (hT : Lib.Utf8Tabs 0 1 w) (hi0 : -9223372036854775808 ≤ i) (hi1 : i ≤ 9223372036854775807) :
    Calls Tryd.prog 6 #[.pointer (some ⟨g, 0, none⟩), .int .i64 i, .bool false] w fun e w' => e = .returned (.int .i64 (wordL (blankAt s l) (clampN i (l.length - 1)) : Nat)) ∧ Below w.heap.size w w' := by
  have ML := Lib.hid (fun (W : World) (h : MapL W g s l) => show Calls Tryd.prog 13 #[.pointer (some ⟨g, 0, none⟩)] W fun e w' => e = .returned (.int .i64 ((l.length : Int) - 1)) ∧ W = w' from mlen_any g s l W h hl.ok)
  have MB := Lib.hid (fun (W : World) (j : Nat) (hj : j + 1 < l.length) (h : MapL W g s l) (ht : Lib.Utf8Tabs 0 1 W) => mblank_any g s l j W h hl hj ht)
  have hp := hl.ok.pos
  have hq := hl.ok.small
  have HC := Lib.hid (clampN_eq i (l.length - 1))
  have hcl := clampN_le i (l.length - 1)
  obtain ⟨i0, hi0'⟩ : ∃ i0, clampN i (l.length - 1) = i0 := ⟨_, rfl⟩
  rw [hi0'] at HC hcl ⊢
  have M0 := Lib.hid hm
  have T0 := Lib.hid hT
  have HP := Lib.hid (fun k => phL_le (blankAt s l) (l.length - 1) i0 hcl k)
  have HF : Hid (∀ j, blankAt s l j = blankS (cutS s l j (j + 1))) := fun j => rfl
  have H2 := Lib.hid (phL_two (blankAt s l) i0)
  have HS : Hid (∀ k, phL (blankAt s l) i0 (k + 1) = goL (blankAt s l) (k == 0) (phL (blankAt s l) i0 k)) := fun k => rfl
  have H0 : Hid (phL (blankAt s l) i0 0 = i0) := rfl
  obtain ⟨f, hf⟩ : ∃ f, blankAt s l = f := ⟨_, rfl⟩
  rw [hf] at HP HF H2 HS H0 ⊢
  obtain ⟨n, hn⟩ : ∃ n, l.length = n + 1 := ⟨l.length - 1, by omega⟩
  have hn1 : l.length - 1 = n := by omega
  rw [hn1] at HC hcl HP
  have HN := Lib.hid hn
  rw [hn] at ML
  have hq2 : n ≤ 1000 := by omega
  obtain ⟨P, hP⟩ : ∃ P, phL f i0 = P := ⟨_, rfl⟩
  rw [hP] at HP H2 HS H0
  clear hm hT hl hf hi0' hn hn1 hP hp hq
  go_enter Tryd.func6, Tryd.ntmps6
  go_wp2_with fail
  refine (ML.out _ M0.out).mono ?_
  rintro e w1 ⟨rfl, rfl⟩
  go_wp2_with fail
  go_loopw [1, 11, 12, 23] (fun a _ _ k wr => ∃ k' : Nat, k = .int .i64 k' ∧ k' ≤ 2 ∧ a = .int .i64 (P k' : Int) ∧ Aside (WS w wr g s l w.heap.size)) (fun _ _ _ k _ => 2 - (intOf k).toNat)
  case atStart =>
    refine ⟨0, rfl, by omega, ?_, (M0.out.alloc _), tabs_next T0.out ((Below.refl _ _).alloc (Nat.le_refl _) _), by simp [World.cell?_alloc_new], by simp [World.cell?_alloc_new], (Below.refl _ _).alloc (Nat.le_refl _) _⟩
    have h1 := HC.out
    have h2 := H0.out
    congr 1
    omega
  case round =>
    obtain ⟨k, rfl, hk, rfl, HX⟩ := hrel
    by_cases hlt : k < 2
    · have ck := HX.out.pick k hlt
      have HSK := Lib.hid (HS.out k)
      have hpk := HP.out k
      obtain ⟨p0, hp0⟩ : ∃ p0, P k = p0 := ⟨_, rfl⟩
      obtain ⟨p1, hp1⟩ : ∃ p1, P (k + 1) = p1 := ⟨_, rfl⟩
      have HP1 := Lib.hid hp1
      rw [hp0] at HSK hpk ⊢
      rw [hp1] at HSK
      obtain ⟨want, hwant⟩ : ∃ want, (k == 0) = want := ⟨_, rfl⟩
      rw [hwant] at ck HSK
      have hkb : decide ((k : Int) < 2) = true := decide_eq_true (by omega)
      clear hp0 hp1 hwant
      go_wp2_with fail
      clear hkb
      obtain ⟨wo, rfl⟩ : ∃ wo : World, wo = wr := ⟨_, rfl⟩
      go_loopw [1, 12] (fun a c wr => ∃ j : Nat, a = .int .i64 (j : Int) ∧ c = .int .i64 ((j : Int) - 1) ∧ j ≤ n ∧ Hid (goL f want j = p1) ∧ Aside (WS w wr g s l w.heap.size)) (fun a _ _ => (intOf a).toNat)
      case atStart => exact ⟨p0, rfl, by first | rfl | (congr 1; omega), hpk, HSK.out.symm, HX⟩
      case round =>
        obtain ⟨j0, rfl, rfl, hj, HJ, HY⟩ := hrel
        by_cases hj0 : 0 < j0
        · obtain ⟨j, rfl⟩ : ∃ j, j0 = j + 1 := ⟨j0 - 1, by omega⟩
          have hjj : ((j + 1 : Nat) : Int) - 1 = (j : Int) := by omega
          rw [hjj]
          have hjc : ((j + 1 : Nat) : Int) = (j : Int) + 1 := by omega
          rw [hjc]
          have hjl : (j : Int) < (n : Int) + 1 - 1 := by omega
          have hjn2 : (j : Int) < (n : Int) := by omega
          have MBJ := Lib.hid (MB.out wr j (by have := HN.out; omega) HY.out.m HY.out.t)
          have hfj := HF.out j
          obtain ⟨bj, hbj⟩ : ∃ bj, blankS (cutS s l j (j + 1)) = bj := ⟨_, rfl⟩
          rw [hbj] at hfj MBJ
          clear hjj hjc
          by_cases hb : bj = want
          · subst hb
            have HJ2 := Lib.hid ((goL_yes f bj j hfj).symm.trans HJ.out)
            clear hfj hbj
            go_wp2_with fail
            refine (ML.out _ HY.out.m).mono ?_
            rintro e w' ⟨rfl, rfl⟩
            go_wp2_with fail
            refine MBJ.out.mono ?_
            rintro e w2 ⟨rfl, b2⟩
            have HY2 := aside (HY.out.keep b2)
            clear b2
            go_wp2
            go_roundw
            case rel => exact ⟨j, by first | rfl | (congr 1; omega), by first | rfl | (congr 1; omega), by omega, HJ2.out, HY2⟩
            case measure => simp [intOf]; try omega
          · have hb2 : (bj == want) = false := by simpa using hb
            have HJ2 := Lib.hid ((goL_no f want j (by rw [hfj]; exact hb)).symm.trans HJ.out)
            clear hfj hbj hb
            go_wp2_with fail
            refine (ML.out _ HY.out.m).mono ?_
            rintro e w' ⟨rfl, rfl⟩
            go_wp2_with fail
            refine MBJ.out.mono ?_
            rintro e w2 ⟨rfl, b2⟩
            have HY2 := aside (HY.out.keep b2)
            clear b2
            go_wp2
            go_roundw
            case rel => exact ⟨k + 1, by go_num, by omega, by have h1 := HP1.out; have h2 := HJ2.out; congr 1; omega, HY2⟩
            case measure => simp [intOf]; omega
        · obtain rfl : j0 = 0 := by omega
          have HJ2 : Hid (0 = p1) := HJ.out
          have hneg : ((0 : Nat) : Int) - 1 = -1 := by omega
          have hz : ((0 : Nat) : Int) = 0 := by omega
          rw [hneg, hz]
          clear hneg hz
          go_wp2
          go_roundw
          case rel => exact ⟨k + 1, by go_num, by omega, by have h1 := HP1.out; have h2 := HJ2.out; congr 1; omega, HY⟩
          case measure => simp [intOf]; omega
    · obtain rfl : k = 2 := by omega
      go_wp2
      go_ret
      exact ⟨ret_int (by rw [H2.out]), HX.out.below⟩

end Go.Proofs.YtaocnnebfnlgiaaDoor
