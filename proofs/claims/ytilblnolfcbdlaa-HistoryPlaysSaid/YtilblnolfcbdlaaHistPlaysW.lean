/-
  The walk of HistoryPlays: it answers true.
-/
import Derived.Test.YtilblnolfcbdlaaPdo
import Derived.Test.YtilblnolfcbdlaaPairs
import Derived.Test.YtilblnolfcbdlaaHistRunsW
import Derived.Deep.RegionWith
import Derived.Deep.DeepCutAuto
namespace Go.Proofs.Ytilblnolfcbdlaa
open Go.RowKit

theorem Hist.widen {w w' : World} {X : Nat → Prop} {b cap : Nat} {beh ah : List Int} {run : Int} (h : Hist w X b cap beh ah run) (hb : Below w.heap.size w w') : Hist w' (fun k => X k ∨ w.heap.size ≤ k) b cap beh ah run := by
  obtain ⟨vb, va, H⟩ := h
  have H2 : HistV w (fun k => X k ∨ w.heap.size ≤ k) b cap vb va beh ah run :=
    ⟨H.blk, fun hx => hx.elim H.nb (fun h => by have := H.lt; omega), H.ob, H.oa, fun k e hx => hx.elim (H.xb k e) (fun h => by have := (H.ob.lt k e).2; omega), fun k e => ⟨fun hx => hx.elim (H.xa k e).1 (fun h => by have := (H.oa.lt k e).2; omega), (H.xa k e).2⟩⟩
  exact ⟨vb, va, H2.keep fun k hk _ => hb.block k hk⟩
theorem Hist.drewN {w : World} {X : Nat → Prop} {b cap : Nat} {beh ah : List Int} {run : Int} (h : Hist w X b cap beh ah run) (n : Nat) : Hist (w.drewN n) X b cap beh ah run := by
  obtain ⟨vb, va, V⟩ := h
  exact ⟨vb, va, V.drewN n⟩
theorem Hist.more {w : World} {X X' : Nat → Prop} {b cap : Nat} {beh ah : List Int} {run : Int} (h : Hist w X b cap beh ah run) (hX : ∀ k, k < w.heap.size → X' k → X k) : Hist w X' b cap beh ah run := by
  obtain ⟨vb, va, H⟩ := h
  exact ⟨vb, va, H.more hX⟩

/-- What holds between two rounds: the program's history in block B, the reference's in block R, its rows in blocks of Y. -/
structure PlS (W w : World) (B R N k : Nat) (Y : Nat → Prop) (beh ah : List Int) (run : Int) (vb va : Value) : Prop where
  h : Hist w (fun k => k = R ∨ Y k) B N beh ah run
  r : Blk4 w R (.int .i64 (N : Int)) vb va (.int .i64 run)
  rb : RInts w Y vb beh
  ra : RInts w Y va ah
  nY : ¬ Y R
  lt : ∀ k, Y k → k < w.heap.size
  lb : beh.length ≤ N
  la : ah.length ≤ k
  bel : Below W.heap.size W w
  sz : W.heap.size ≤ R ∧ W.heap.size ≤ B

theorem below_drew {B : Nat} {a w : World} (h : Below B a w) : Below B a w.drew := ⟨h.os, h.tape, h.output, h.size, h.block⟩
/-- Blocks of the reference's rows behind a step. -/
def Y2 (Y : Nat → Prop) (w : World) : Nat → Prop := fun k => (Y k ∧ k < w.heap.size) ∨ w.heap.size ≤ k

def Y3 (Y : Nat → Prop) (wr W' : World) : Nat → Prop := fun k => (Y k ∧ k < wr.heap.size) ∨ W'.heap.size + 2 ≤ k
theorem Y3.up {Y : Nat → Prop} {wr W' : World} (h : wr.heap.size ≤ W'.heap.size) {w2 : World} : ∀ k, Y3 Y wr W' k → k < w2.heap.size → Y2 Y wr k := by
  intro k hk _
  rcases hk with hk | hk
  · exact .inl hk
  · exact .inr (by omega)
theorem Y3.ne {Y : Nat → Prop} {wr W' : World} (h : wr.heap.size < W'.heap.size) : ∀ k, Y3 Y wr W' k → k ≠ wr.heap.size := by
  intro k hk
  rcases hk with hk | hk <;> omega

/-- What the reference's step leaves, told of the world where the round began. -/
def RdEnds (N : Nat) (Y : Nat → Prop) (wr : World) (s : HS) (W' : World) (e : Ending) (w' : World) : Prop :=
  ∃ A1 n1 c1 A2 n2 c2, e = .returned (.tuple #[.agg #[.int .i64 (N : Int), .slice A1 n1 c1, .slice A2 n2 c2, .int .i64 s.run], .int .i64 s.x, .int .i64 s.e]) ∧
    RInts w' (Y3 Y wr W') (.slice A1 n1 c1) s.beh ∧ RInts w' (Y3 Y wr W') (.slice A2 n2 c2) s.ah ∧ Below wr.heap.size wr w' ∧ Below W'.heap.size W' w'

theorem rd_any (N : Nat) (Y : Nat → Prop) (beh ah : List Int) (run a what : Int) (vb va : Value) (wr W' : World) (hY : ∀ k, Y k → k < wr.heap.size) (hb : RInts wr Y vb beh) (ha : RInts wr Y va ah) (hc0 : 1 ≤ N) (hc1 : N ≤ 1024)
    (hl : beh.length ≤ N) (hl2 : ah.length ≤ 1000000) (hw : 0 ≤ what) (hW : Below wr.heap.size wr W') :
    Calls Try.prog 23 #[.agg #[.int .i64 (N : Int), vb, va, .int .i64 run], .int .i64 what, .int .i64 a] W' (RdEnds N Y wr (stp N what a ⟨beh, ah, run, 0, 0⟩) W') := by
  refine (rdo_any N Y beh ah run a what W' vb va (hb.below hW) (ha.below hW) hc0 hc1 hl hl2 hw).mono ?_
  rintro e w' ⟨vb2, va2, rfl, r1, r2, b⟩
  obtain ⟨A1, n1, c1, rfl⟩ := r1.form2
  obtain ⟨A2, n2, c2, rfl⟩ := r2.form2
  have hs := hW.size
  have hx : ∀ k, Nx Y W' k → k < w'.heap.size → Y3 Y wr W' k := by
    intro k hk _
    rcases hk with ⟨hk, _⟩ | hk
    · exact .inl ⟨hk, hY k hk⟩
    · exact .inr hk
  exact ⟨A1, n1, c1, A2, n2, c2, rfl, r1.more hx, r2.more hx, hW.trans (b.mono hs), b⟩

/-- What stands behind the reference's step: slots 11, 12, 13. -/
def RdAt (N : Nat) (Y : Nat → Prop) (wr : World) (s : HS) (t11 t12 t13 : Value) (wx : World) : Prop :=
  ∃ Z A1 n1 c1 A2 n2 c2, t11 = .pointer (some ⟨Z, 0, none⟩) ∧ t12 = .int .i64 s.x ∧ t13 = .int .i64 s.e ∧ Blk4 wx Z (.int .i64 (N : Int)) (.slice A1 n1 c1) (.slice A2 n2 c2) (.int .i64 s.run) ∧
    RInts wx (Y2 Y wr) (.slice A1 n1 c1) s.beh ∧ RInts wx (Y2 Y wr) (.slice A2 n2 c2) s.ah ∧ Below wr.heap.size wr wx

theorem RdAt.new {N : Nat} {Y : Nat → Prop} {wr w2 W' : World} {s : HS} {A1 A2 : Option Addr} {n1 c1 n2 c2 : Nat} (r1 : RInts w2 (Y3 Y wr W') (.slice A1 n1 c1) s.beh) (r2 : RInts w2 (Y3 Y wr W') (.slice A2 n2 c2) s.ah) (b1 : Below wr.heap.size wr w2) (hW : wr.heap.size ≤ W'.heap.size) :
    RdAt N Y wr s (.pointer (some ⟨w2.heap.size, 0, none⟩)) (.int .i64 s.x) (.int .i64 s.e) (w2.alloc (.cells #[.int .i64 (N : Int), .slice A1 n1 c1, .slice A2 n2 c2, .int .i64 s.run] 47)) :=
  ⟨w2.heap.size, A1, n1, c1, A2, n2, c2, rfl, rfl, rfl, heap_alloc_new _ _, (r1.more (Y3.up hW)).alloc _, (r2.more (Y3.up hW)).alloc _, b1.alloc b1.size _⟩
theorem RdAt.old {N : Nat} {Y : Nat → Prop} {wr w2 W' : World} {s : HS} {A1 A2 : Option Addr} {n1 c1 n2 c2 : Nat} {a b c d : Value} (z : Blk4 w2 wr.heap.size a b c d) (r1 : RInts w2 (Y3 Y wr W') (.slice A1 n1 c1) s.beh) (r2 : RInts w2 (Y3 Y wr W') (.slice A2 n2 c2) s.ah) (b1 : Below wr.heap.size wr w2) (hW : wr.heap.size < W'.heap.size) :
    RdAt N Y wr s (.pointer (some ⟨wr.heap.size, 0, none⟩)) (.int .i64 s.x) (.int .i64 s.e) ((((w2.setCell ⟨wr.heap.size, 0, none⟩ (.int .i64 (N : Int))).setCell ⟨wr.heap.size, 1, none⟩ (.slice A1 n1 c1)).setCell ⟨wr.heap.size, 2, none⟩ (.slice A2 n2 c2)).setCell ⟨wr.heap.size, 3, none⟩ (.int .i64 s.run)) :=
  ⟨wr.heap.size, A1, n1, c1, A2, n2, c2, rfl, rfl, rfl, Blk4.setAll z, ((((r1.set (Y3.ne hW) _).set (Y3.ne hW) _).set (Y3.ne hW) _).set (Y3.ne hW) _).more (Y3.up (Nat.le_of_lt hW)), ((((r2.set (Y3.ne hW) _).set (Y3.ne hW) _).set (Y3.ne hW) _).set (Y3.ne hW) _).more (Y3.up (Nat.le_of_lt hW)),
   (((b1.setCell (Nat.le_refl _) _).setCell (Nat.le_refl _) _).setCell (Nat.le_refl _) _).setCell (Nat.le_refl _) _⟩

theorem pushL_len (N : Nat) (l : List Int) (x : Int) (h : l.length ≤ N) : (pushL N l x).length ≤ N := by
  unfold pushL
  split
  · rw [List.length_drop, List.length_append]; simp; omega
  · rw [List.length_append]; simp; omega
theorem stp_len (N : Nat) (what a : Int) (beh ah : List Int) (run : Int) (h : beh.length ≤ N) : (stp N what a ⟨beh, ah, run, 0, 0⟩).beh.length ≤ N ∧ (stp N what a ⟨beh, ah, run, 0, 0⟩).ah.length ≤ ah.length + 1 := by
  have hp := pushL_len N beh a h
  unfold stp noteL
  split
  · refine ⟨?_, by simp⟩
    show List.length (if _ then _ else _) ≤ N
    split
    · exact hp
    · exact h
  split
  · exact ⟨h, by simp⟩
  split
  · split
    · exact ⟨h, by simp⟩
    · exact ⟨by simp; omega, by simp⟩
  split
  · split
    · exact ⟨h, by simp⟩
    · exact ⟨hp, by simp; omega⟩
  · exact ⟨Nat.zero_le _, by simp⟩

/-- What holds behind the reference's step: its history stands in block R, the program's has not moved. -/
structure PlM (W w : World) (B R N : Nat) (Y : Nat → Prop) (beh ah : List Int) (run : Int) (s : HS) (vb va : Value) : Prop where
  h : Hist w (fun k => k = R ∨ Y k) B N beh ah run
  r : Blk4 w R (.int .i64 (N : Int)) vb va (.int .i64 s.run)
  rb : RInts w Y vb s.beh
  ra : RInts w Y va s.ah
  nY : ¬ Y R
  lt : ∀ k, Y k → k < w.heap.size
  bel : Below W.heap.size W w
  sz : W.heap.size ≤ R ∧ W.heap.size ≤ B
  lB : B ≤ w.heap.size
theorem PlS.step {W wr wc : World} {B R N k : Nat} {Y : Nat → Prop} {beh ah : List Int} {run : Int} {vb va : Value} {s : HS} {Z n1 c1 n2 c2 : Nat} {A1 A2 : Option Addr} (P : PlS W wr B R N k Y beh ah run vb va)
    (z : Blk4 wc Z (.int .i64 (N : Int)) (.slice A1 n1 c1) (.slice A2 n2 c2) (.int .i64 s.run)) (r1 : RInts wc (Y2 Y wr) (.slice A1 n1 c1) s.beh) (r2 : RInts wc (Y2 Y wr) (.slice A2 n2 c2) s.ah) (b1 : Below wr.heap.size wr wc) :
    PlM W ((((wc.setCell ⟨R, 0, none⟩ (.int .i64 (N : Int))).setCell ⟨R, 1, none⟩ (.slice A1 n1 c1)).setCell ⟨R, 2, none⟩ (.slice A2 n2 c2)).setCell ⟨R, 3, none⟩ (.int .i64 s.run)) B R N (fun k => Y2 Y wr k ∧ k < wc.heap.size) beh ah run s (.slice A1 n1 c1) (.slice A2 n2 c2) := by
  have hR := P.r.lt
  have hne : ∀ k, (Y2 Y wr k ∧ k < wc.heap.size) → k ≠ R := by
    rintro k ⟨hk, _⟩ rfl
    rcases hk with hk | hk
    · exact P.nY hk.1
    · omega
  have r1' : RInts wc (fun k => Y2 Y wr k ∧ k < wc.heap.size) (.slice A1 n1 c1) s.beh := r1.old
  have r2' : RInts wc (fun k => Y2 Y wr k ∧ k < wc.heap.size) (.slice A2 n2 c2) s.ah := r2.old
  refine ⟨?_, Blk4.setAll (P.r.keep (b1.block R hR)), (((r1'.set hne _).set hne _).set hne _).set hne _, (((r2'.set hne _).set hne _).set hne _).set hne _, fun h => hne R h rfl, fun k hk => by simpa using hk.2, ?_, P.sz, ?_⟩
  · obtain ⟨vb', va', V⟩ := P.h.widen b1
    have V2 := V.keep (w' := (((wc.setCell ⟨R, 0, none⟩ (.int .i64 (N : Int))).setCell ⟨R, 1, none⟩ (.slice A1 n1 c1)).setCell ⟨R, 2, none⟩ (.slice A2 n2 c2)).setCell ⟨R, 3, none⟩ (.int .i64 s.run)) (fun k hk hx => by
      have hkR : k ≠ R := fun e => hx (.inl (.inl e))
      rw [Below.heap_setCell _ _ _ _ hkR, Below.heap_setCell _ _ _ _ hkR, Below.heap_setCell _ _ _ _ hkR, Below.heap_setCell _ _ _ _ hkR])
    refine ⟨vb', va', V2.more (fun k _ hx => ?_)⟩
    rcases hx with hx | ⟨hx, _⟩
    · exact .inl (.inl hx)
    · rcases hx with hx | hx
      · exact .inl (.inr hx.1)
      · exact .inr hx
  · have h0 := P.bel.trans (b1.mono P.bel.size)
    exact (((h0.setCell P.sz.1 _).setCell P.sz.1 _).setCell P.sz.1 _).setCell P.sz.1 _
  · obtain ⟨_, _, V⟩ := P.h
    have h1 := V.lt
    have h2 := b1.size
    simp
    omega
theorem PlS.drewN {W w : World} {B R N k : Nat} {Y : Nat → Prop} {beh ah : List Int} {run : Int} {vb va : Value} (P : PlS W w B R N k Y beh ah run vb va) (n : Nat) : PlS W (w.drewN n) B R N k Y beh ah run vb va :=
  ⟨P.h.drewN n, P.r, P.rb.keep (fun _ h _ => ⟨h, rfl⟩), P.ra.keep (fun _ h _ => ⟨h, rfl⟩), P.nY, P.lt, P.lb, P.la, ⟨P.bel.os, P.bel.tape, P.bel.output, P.bel.size, P.bel.block⟩, P.sz⟩
theorem PlM.next {W w w' : World} {B R N k : Nat} {Y : Nat → Prop} {beh ah : List Int} {run : Int} {s : HS} {vb va : Value} (M : PlM W w B R N Y beh ah run s vb va) (h : Hist w' (fun k => k = R ∨ Y k) B N s.beh s.ah s.run) (f : Fr (fun k => k = R ∨ Y k) B w w')
    (lb : s.beh.length ≤ N) (la : s.ah.length ≤ k) : PlS W w' B R N k Y s.beh s.ah s.run vb va := by
  have hk : ∀ j, Y j → j < w.heap.size → Y j ∧ w'.heap[j]? = w.heap[j]? := fun j hj hlt => ⟨hj, f.block j hlt (.inr (.inr hj))⟩
  exact ⟨h, M.r.keep (f.block R M.r.lt (.inr (.inl rfl))), M.rb.keep hk, M.ra.keep hk, M.nY, fun j hj => Nat.lt_of_lt_of_le (M.lt j hj) f.size, lb, la, M.bel.trans ((f.below M.lB).mono M.sz.2), M.sz⟩

set_option maxRecDepth 100000 in
set_option maxHeartbeats 8000000 in
theorem historyPlays_walk (cap : Int) (v : Value) (n : Nat) (f g : Nat → Int) (w : World) (hc0 : -9223372036854775808 ≤ cap) (hc1 : cap ≤ 9223372036854775807) (hl : IsPairs w v n f g) :
    Calls Try.prog 9 #[.int .i64 cap, v] w fun e w' => e = .returned (.bool true) ∧ Below w.heap.size w w' := by
  obtain ⟨m, hm, hm1⟩ := around_nat cap 6 (by omega)
  have HM := Lib.hid hm
  clear hm
  obtain ⟨A, c, rfl, hnc, hcm, hbd, hcell⟩ := hl
  have HBD := Lib.hid hbd
  clear hbd
  have hform : n ≤ 0 ∨ ∃ b off, A = some ⟨b, off, none⟩ ∧ b < w.heap.size ∧ Hid (∀ i, i < n → w.cell? ⟨b, off + i * 2, none⟩ = some (.int .i64 (f i)) ∧ w.cell? ⟨b, off + i * 2 + 1, none⟩ = some (.int .i64 (g i))) := by
    by_cases h0 : 0 < n
    · obtain ⟨b, off, rfl, h⟩ := hcell h0
      exact .inr ⟨b, off, rfl, World.block_lt_of_cell? w _ (h 0 h0).1, h⟩
    · exact .inl (by omega)
  clear hcell
  rcases hform with hz | ⟨ab, ao, rfl, hab, HC⟩
  all_goals
    go_enter Try.func9, Try.ntmps9
    go_wp2_with fail
    refine (around_any cap 6 w hc0 hc1 (by omega) (by omega)).mono ?_
    rintro e w' ⟨rfl, rfl⟩
    rw [HM.out]
    go_wp2_with fail
    refine (new_int w (1 + (m : Int)) (1 + m) (by omega) (by omega) (by omega)).mono ?_
    rintro e w1 ⟨rfl, h1, b1⟩
    go_wp2_with fail
    obtain ⟨N, hN⟩ : ∃ N : Nat, N = 1 + m := ⟨_, rfl⟩
    have hN2 : 1 + (m : Int) = (N : Int) := by omega
    rw [hN2]
    rw [← hN] at h1
    have hNa : 1 ≤ N := by omega
    have hNb : N ≤ 6 := by omega
    obtain ⟨R, hR⟩ : ∃ R, w1.heap.size = R := ⟨_, rfl⟩
    obtain ⟨B, hB⟩ : ∃ B, w.heap.size = B := ⟨_, rfl⟩
    have hRB : B < R := by
      obtain ⟨vb, va, V⟩ := h1
      have := V.lt
      omega
    have HI : Hid (∃ Y beh ah run vb va, PlS w (w1.alloc (.cells #[.int .i64 (N : Int), .slice none 0 0, .slice none 0 0, .int .i64 0] 47)) B R N 0 Y beh ah run vb va) := by
      refine ⟨fun _ => False, [], [], 0, .slice none 0 0, .slice none 0 0, ?_, ?_, .inl ⟨rfl, rfl⟩, .inl ⟨rfl, rfl⟩, fun h => h, fun _ h => h.elim, Nat.zero_le _, Nat.zero_le _, b1.alloc b1.size _, by have := b1.size; omega⟩
      · rw [← hB]
        refine (h1.widen (w' := w1.alloc _) ((Below.refl _ _).alloc (Nat.le_refl _) _)).more (fun k hk hx => ?_)
        rcases hx with rfl | hx
        · exact .inr (by omega)
        · exact hx.elim
      · rw [← hR]
        exact heap_alloc_new _ _
    rw [hB, hR]
    clear h1 b1 hN hN2 HM hm1
    obtain ⟨W0, hW0⟩ : ∃ W0, W0 = w1.alloc (.cells #[.int .i64 (N : Int), .slice none 0 0, .slice none 0 0, .int .i64 0] 47) := ⟨_, rfl⟩
    rw [← hW0] at HI ⊢
    have HBW := Lib.hid hB
    clear hW0 hR hB
    go_loopw [9] (fun i wr => ∃ k : Nat, i = .int .i64 k ∧ k ≤ n ∧ k ≤ 20 ∧ Hid (∃ Y beh ah run vb va, PlS w wr B R N k Y beh ah run vb va)) (fun i _ => (20 - (intOf i).toNat))
    case atStart => exact ⟨0, rfl, by omega, by omega, HI⟩
    case round =>
      obtain ⟨k, rfl, hk, hk20, HS⟩ := hrel
      by_cases hlt : k < n ∧ k < 20
      · obtain ⟨hlt1, hlt20⟩ := hlt
        first
          | (exfalso; omega)
          | (obtain ⟨Y, beh, ah, run, vb, va, P⟩ := HS.out
             have hcl := HC.out k hlt1
             have hbf := (HBD.out k hlt1).1
             have d0 : wr.cell? ⟨ab, ao + k * 2, none⟩ = some (.int .i64 (f k)) := by rw [P.bel.cell (p := ⟨ab, ao + k * 2, none⟩) hab]; exact hcl.1
             have d1 : wr.cell? ⟨ab, ao + k * 2 + 1, none⟩ = some (.int .i64 (g k)) := by rw [P.bel.cell (p := ⟨ab, ao + k * 2 + 1, none⟩) hab]; exact hcl.2
             obtain ⟨a, ha⟩ : ∃ a, g k = a := ⟨_, rfl⟩
             obtain ⟨a0, ha0⟩ : ∃ a0, f k = a0 := ⟨_, rfl⟩
             obtain ⟨q, hq, hq1⟩ := around_nat (f k) 10 (by omega)
             rw [ha] at d1
             rw [ha0] at d0 hbf hq
             have HQ := Lib.hid hq
             obtain ⟨hf0, hf1⟩ := hbf
             have HG := Lib.hid ha
             clear hcl ha ha0 hq
             go_wp2_with fail
             refine (around_any a0 10 wr hf0 hf1 (by omega) (by omega)).mono ?_
             rintro e w' ⟨rfl, rfl⟩
             rw [HQ.out]
             go_wp2_with fail
             have RD := Lib.hid (fun (W' : World) (hW : Below wr.heap.size wr W') => rd_any N Y beh ah run a (q : Int) vb va wr W' P.lt P.rb P.ra hNa (by omega) P.lb (by have := P.la; omega) (by omega) hW)
             obtain ⟨Av, nv, cv, rfl⟩ := P.rb.form2
             obtain ⟨Aw, nw, cw, rfl⟩ := P.ra.form2
             obtain ⟨s, hs⟩ : ∃ s, stp N (q : Int) a ⟨beh, ah, run, 0, 0⟩ = s := ⟨_, rfl⟩
             rw [hs] at RD
             have HSS := Lib.hid hs
             clear hs
             have HP := aside P
             have hab2 : ab < wr.heap.size := World.block_lt_of_cell? wr _ d1
             have hR2 : R < wr.heap.size := P.r.lt
             have hab3 : ¬ ab = wr.heap.size := by omega
             have hR3 : ¬ R = wr.heap.size := by omega
             have e0 := P.r.c0
             have e1 := P.r.c1
             have e2 := P.r.c2
             have e3 := P.r.c3
             clear P
             go_cut [11, 12, 13] (fun t11 t12 t13 wx => RdAt N Y wr s t11 t12 t13 wx)
             case first =>
               go_region_with (go_at_call 23; refine (RD.out _ (by repeat (first | exact Below.refl _ _ | refine below_drew ?_ | refine Below.alloc ?_ (by simp) _))).mono ?_; rintro e w2 ⟨A1, n1, c1, A2, n2, c2, rfl, r1, r2, b1, b2⟩; (try (have z : Blk4 w2 wr.heap.size (.int .i64 0) (.slice none 0 0) (.slice none 0 0) (.int .i64 0) := (b2.block wr.heap.size (by simp)).trans (heap_alloc_new _ _); have q0 := z.c0; have q1 := z.c1; have q2 := z.c2; have q3 := z.c3; have qf := z.fz)))
               all_goals
                 go_wp2_with fail
                 go_meet
                 first
                   | with_reducible exact RdAt.new r1 r2 b1 (by simp)
                   | with_reducible exact RdAt.old z r1 r2 b1 (by simp)
             case rest =>
               obtain ⟨Z, A1, n1, c1, A2, n2, c2, rfl, rfl, rfl, z, r1, r2, b1⟩ := hcut
               have M := aside (HP.out.step z r1 r2 b1)
               have z0 := z.c0
               have z1 := z.c1
               have z2 := z.c2
               have z3 := z.c3
               have hRk := (HP.out.r.keep (b1.block R hR2))
               have f0 := hRk.c0
               have f1 := hRk.c1
               have f2 := hRk.c2
               have f3 := hRk.c3
               have ff := hRk.fz
               obtain rfl := r1.len_le
               obtain rfl := r2.len_le
               have hst := stp_len N (q : Int) a beh ah run HP.out.lb
               have HST := Lib.hid hst
               clear r1 r2 b1 z hRk hst RD e0 e1 e2 e3
               go_upto_region 12 with (fail)
               refine wp_name ?_
               intro W5 hW5
               rw [← hW5] at M
               clear hW5 z0 z1 z2 z3 f0 f1 f2 f3 ff d0 d1 hab2 hab3 hR2 hR3
               have d1 : W5.cell? ⟨ab, ao + k * 2 + 1, none⟩ = some (.int .i64 a) := by rw [M.out.bel.cell (p := ⟨ab, ao + k * 2 + 1, none⟩) hab, (HC.out k hlt1).2, HG.out]
               have hXl : ∀ j, (j = R ∨ (Y2 Y wr j ∧ j < wc.heap.size)) → j < W5.heap.size := by
                 intro j hj
                 rcases hj with rfl | hj
                 · exact M.out.r.lt
                 · exact M.out.lt j hj
               have HXL := Lib.hid hXl
               clear hXl
               go_wp2_with fail
               refine (pdo_any N B _ beh ah run a (q : Int) W5 M.out.h HXL.out (by have := HP.out.lb; omega) (by have := HP.out.la; omega) (by omega) (by omega)).mono ?_
               rintro e w6 ⟨rfl, h6, f6⟩
               rw [HSS.out] at h6 HST
               have S6 := aside (M.out.next h6 f6 HST.out.1 (k := k + 1) (by have := HST.out.2; have := HP.out.la; omega))
               have x1 := S6.out.r.c1
               have x2 := S6.out.r.c2
               obtain ⟨nb, hnb⟩ : ∃ nb, s.beh.length = nb := ⟨_, rfl⟩
               obtain ⟨na, hna⟩ : ∃ na, s.ah.length = na := ⟨_, rfl⟩
               rw [hnb] at x1 S6
               rw [hna] at x2 S6
               have HNB := Lib.hid hnb
               have HNA := Lib.hid hna
               clear h6 f6 hnb hna M d1
               rw [HSS.out]
               go_wp2_with fail
               refine (len_any _ B N s.beh s.ah s.run w6 S6.out.h).mono ?_
               rintro e w7 ⟨rfl, nd, rfl⟩
               rw [HNB.out, HNA.out]
               go_wp2_with (go_at_call 25; refine (cap_any _ B N s.beh s.ah s.run _ (S6.out.h.drewN nd)).mono ?_; rintro e w8 ⟨rfl, rfl⟩)
               have S7 := aside (S6.out.drewN nd)
               go_roundw
               case rel => exact ⟨k + 1, by go_num, by omega, by omega, _, _, _, _, _, _, S7.out⟩
               case measure => simp [intOf]; omega)
      · have hor : (¬ k < n) ∨ (k < n ∧ ¬ k < 20) := by omega
        have HE : Hid (Below w.heap.size w wr) := by
          obtain ⟨Y, beh, ah, run, vb, va, P⟩ := HS.out
          exact P.bel
        clear HS hlt
        rcases hor with hlt0 | ⟨hlt0, hlt6⟩
        all_goals try (exfalso; omega)
        all_goals
          go_wp2_with fail
          refine (lives22 _).mono ?_
          rintro e w12 ⟨rfl, b12⟩
          go_wp2
          go_ret
          exact ⟨rfl, HE.out.trans (b12.mono HE.out.size)⟩

end Go.Proofs.Ytilblnolfcbdlaa
