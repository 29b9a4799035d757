/-
  Contracts: a builder's copyCheck and WriteRune; the program's Join.
-/
import Derived.Test.YtaocnnebfnlgiaaRef1
import Derived.Test.YtaocnnebfnlgiaaShelf
import Derived.Lib.Builder
import Derived.Test.YtaocnnebfnlgiaaOwn
import Derived.Shelf.Strings.BuilderX
namespace Go.Proofs.Ytaocnnebfnlgiaa
open Go.RowKit

theorem bsize : (Try.prog.info? 71).map (·.size) = some 2 := by kernel_rfl
theorem blies : liesAt Try.prog Try.prog.depth 71 (2 / Try.prog.cellsOf 71) 0 71 1 = true := by kernel_rfl

set_option maxHeartbeats 1000000 in
set_option maxRecDepth 100000 in
theorem bcheck_used (b : Nat) (w : World) (h0 : w.cell? ⟨b, 0, none⟩ = some (.pointer (some ⟨b, 0, none⟩))) :
    Calls Try.prog 73 #[.pointer (some ⟨b, 0, none⟩)] w fun e w' => e = .returned (.tuple #[]) ∧ w = w' := by
  obtain ⟨j, hj, hjs⟩ := Option.map_eq_some_iff.1 bsize
  have HJ := Lib.hid hjs
  clear hjs
  go_enter Try.func73, Try.ntmps73
  go_wp2
  rw [Lib.run_neq_ptr_same w _ Try.underlying69 hj]
  go_wp2
  go_end0
  exact ⟨rfl, rfl⟩

set_option maxHeartbeats 1000000 in
set_option maxRecDepth 100000 in
theorem bcheck_fresh (b : Nat) (w : World) (h0 : w.cell? ⟨b, 0, none⟩ = some (.pointer none)) (hsh : w.shape? b = some (71, 2)) (hfz : w.frozen? ⟨b, 0, none⟩ = false) :
    Calls Try.prog 73 #[.pointer (some ⟨b, 0, none⟩)] w fun e w' => e = .returned (.tuple #[]) ∧ w.setCell ⟨b, 0, none⟩ (.pointer (some ⟨b, 0, none⟩)) = w' := by
  obtain ⟨j, hj, hjs⟩ := Option.map_eq_some_iff.1 bsize
  have HJ := Lib.hid hjs
  have HSH := Lib.hid hsh
  clear hjs hsh
  go_enter Try.func73, Try.ntmps73
  go_wp2
  rw [Lib.run_to_unsafe w ⟨b, 0, none⟩ Try.underlying69 Try.underlying88 hj (by rw [HJ.out]; decide) HSH.out (Nat.zero_lt_succ 1)]
  simp only [Result.andThen]
  rw [Oper.upon_value]
  go_wp2
  rw [run_callFunc_extern Try.func79 (by kernel_rfl) (by kernel_rfl) (by kernel_rfl) (e := Extern.AbiNoEscape.same) (by kernel_rfl)]
  rw [Lib.run_noEscape]
  simp only [Result.andThen]
  rw [Oper.upon_value]
  go_wp2
  rw [Lib.run_from_unsafe w ⟨b, 0, none⟩ Try.underlying88 Try.underlying69 hj HSH.out blies]
  simp only [Result.andThen]
  rw [Oper.upon_value]
  go_wp2
  go_end0
  exact ⟨rfl, rfl⟩

theorem bcheck_any (B b : Nat) (bs : List Value) (w : World) (h : Lib.IsBuilder 71 5 B b bs w) :
    Calls Try.prog 73 #[.pointer (some ⟨b, 0, none⟩)] w fun e w' => e = .returned (.tuple #[]) ∧ Lib.BuilderAt 71 5 B b (.pointer (some ⟨b, 0, none⟩)) bs w' ∧ Below B w w' := by
  rcases h with h | h
  · refine (bcheck_fresh b w h.cell0 h.shape h.frozen0).mono ?_
    rintro e w' ⟨rfl, rfl⟩
    exact ⟨rfl, h.used _, (Below.refl _ _).setCell (p := ⟨b, 0, none⟩) h.1 _⟩
  · refine (bcheck_used b w h.cell0).mono ?_
    rintro e w' ⟨rfl, rfl⟩
    exact ⟨rfl, h, Below.refl _ _⟩

set_option maxHeartbeats 2000000 in
set_option maxRecDepth 100000 in
theorem bwrite_any (B b : Nat) (bs : List Value) (r : Int) (w : World) (hr0 : -2147483648 ≤ r) (hr1 : r ≤ 2147483647) (h : Lib.IsBuilder 71 5 B b bs w) (hlen : bs.length + 4 ≤ 140737488355328) (hBw : B ≤ w.heap.size) :
    Calls Try.prog 61 #[.pointer (some ⟨b, 0, none⟩), .int .i32 r] w fun e w' => ∃ n, e = .returned (.tuple #[.int .i64 n, .nilIface]) ∧
      Lib.IsBuilder 71 5 B b (bs ++ Lib.runeCells r) w' ∧ Below B w w' := by
  go_enter Try.func61, Try.ntmps61
  go_wp2_with fail
  refine (bcheck_any B b bs w h).mono ?_
  rintro e w1 ⟨rfl, hb1, b1⟩
  have B1 := aside b1
  have hs1 := b1.size
  obtain ⟨hBb, v, hblk, hown, hne⟩ := hb1
  have hlt : b < w1.heap.size := (Array.getElem?_eq_some_iff.1 hblk).1
  have c1 := Lib.cell_of_heap hblk 1
  simp only [List.getElem?_toArray, List.getElem?_cons_succ, List.getElem?_cons_zero] at c1
  have hform : ∃ A c, v = .slice A bs.length c := by
    rcases hown.2 with ⟨h1, h2⟩ | ⟨g, cap, cur, h1, _⟩
    · exact ⟨none, 0, by rw [h1, h2]⟩
    · exact ⟨_, cap, h1⟩
  obtain ⟨A, cp, rfl⟩ := hform
  have HOWN := aside hown
  have HBLK := aside hblk
  have HNE := aside hne
  clear b1 hown hblk hne
  go_wp2_with fail
  refine (Try.utf8_AppendRune_plain B _ _ _ r hr0 hr1 w1 HOWN.out hlen (by omega)).mono ?_
  rintro e w2 ⟨v2, rfl, hown2, o, hgr⟩
  have hkp : w2.heap[b]? = some (.cells #[.pointer (some ⟨b, 0, none⟩), .slice A bs.length cp] 71 (0, 0)) := by
    rw [hgr.block b (by simp; omega) (fun e => HNE.out e.symm), Below.heap_alloc _ _ _ hlt]
    exact HBLK.out
  have hk4 := Lib.runeCells_le r
  obtain ⟨k, hk⟩ : ∃ k, (Lib.runeCells r).length = k := ⟨_, rfl⟩
  rw [hk] at hown2 hk4
  obtain ⟨g2, cp2, rfl, hg2, hg3⟩ := hown2.form (by omega)
  have f1 := Lib.frozen_of_heap hkp 1
  have hbe : Lib.BuilderAt 71 5 B b (.pointer (some ⟨b, 0, none⟩)) (bs ++ Lib.runeCells r) (w2.setCell ⟨b, 1, none⟩ (.slice (some ⟨g2, 0, none⟩) (bs.length + k) cp2)) :=
    Lib.BuilderAt.put hBb hkp (by rw [List.length_append, hk]; exact hown2) (by decide)
  have hlt2 : b < w2.heap.size := (Array.getElem?_eq_some_iff.1 hkp).1
  have hbelow : Below B w w2 := ((B1.out.alloc (by omega) o).grown hgr (by simp; omega) (fun j hj => (HOWN.out.lt j hj).1))
  have d1 : w2.cell? ⟨b, 1, none⟩ = some (.slice A bs.length cp) := by have := Lib.cell_of_heap hkp 1; simpa using this
  have X := aside hbe
  have Y := aside hbelow
  clear hgr hown2 hkp hbe hbelow
  go_wp2
  go_ret2
  exact ⟨_, rfl, .inr X.out, Y.out.setCell (p := ⟨b, 1, none⟩) hBb _⟩

/-- What is written of a number: itself, if it is a character. -/
def orSpoilt (c : Int) : Int := if mayB c = true then c else 65533
def joinL (l : List Int) : List UInt8 := l.flatMap fun c => Lib.encodeRune (orSpoilt c)
theorem joinL_snoc (l : List Int) (k : Nat) (hk : k < l.length) : joinL (l.take (k + 1)) = joinL (l.take k) ++ Lib.encodeRune (orSpoilt (l.getD k 0)) := by
  unfold joinL
  rw [List.take_succ_eq_append_getElem hk, List.flatMap_append]
  simp [hk]
theorem joinL_len : ∀ l : List Int, (joinL l).length ≤ 4 * l.length
  | [] => by simp [joinL]
  | c :: l => by
    have ih := joinL_len l
    have h := enc_len (orSpoilt c)
    have e : joinL (c :: l) = Lib.encodeRune (orSpoilt c) ++ joinL l := rfl
    rw [e, List.length_append, List.length_cons]
    omega
theorem orSpoilt_bd (c : Int) : 0 ≤ orSpoilt c ∧ orSpoilt c ≤ 1114111 := by
  unfold orSpoilt
  split
  · rename_i h
    have := (mayB_iff c).1 h
    omega
  · omega

theorem byteCells_app (a b : List UInt8) : Lib.byteCells (a ++ b) = Lib.byteCells a ++ Lib.byteCells b := by simp [Lib.byteCells]

set_option maxHeartbeats 2000000 in
set_option maxRecDepth 100000 in
theorem ujoin_any (l : List Int) (v : Value) (w : World) (hv : IsInts w v l) (hl : l.length ≤ 1000000) :
    Calls Try.prog 46 #[v] w fun e w' => e = .returned (.string ⟨(joinL l).toArray⟩) ∧ Below w.heap.size w w' := by
  obtain ⟨A, ca, rfl, hca1, hca2, hA⟩ := hv
  have hbu := Lib.fresh_isBuilder 71 5 w
  have hnew : (Below w.heap.size w (w.alloc (.cells #[.pointer none, .slice none 0 0] 71))) := (Below.refl _ _).alloc (Nat.le_refl _) _
  have HBU := Lib.hid hbu
  have HNEW := Lib.hid hnew
  clear hbu hnew
  by_cases h0 : 0 < l.length
  · obtain ⟨b, off, rfl, hcell⟩ := hA h0
    have HC : Hid (∀ W' : World, Below w.heap.size w W' → ∀ j, j < l.length → W'.cell? ⟨b, off + j, none⟩ = some (.int .i64 (l.getD j 0))) := by
      intro W' hb j hj
      have := hcell j hj
      rw [hb.cell (p := ⟨b, off + j, none⟩) (World.block_lt_of_cell? _ _ this)]
      exact this
    clear hA hcell
    go_enter Try.func46, Try.ntmps46
    go_wp2
    go_loopw [8] (fun i wr => ∃ k : Nat, i = .int .i64 k ∧ k ≤ l.length ∧ Aside (Lib.IsBuilder 71 5 w.heap.size w.heap.size (Lib.byteCells (joinL (l.take k))) wr ∧ Below w.heap.size w wr)) (fun i _ => l.length - (intOf i).toNat)
    case atStart => exact ⟨0, rfl, by omega, HBU.out, HNEW.out⟩
    case round =>
      obtain ⟨k, rfl, hk, HX⟩ := hrel
      by_cases hlt : k < l.length
      · have d0 := HC.out wr HX.out.2 k hlt
        have hsn := joinL_snoc l k hlt
        have hjl := joinL_len (l.take k)
        have htl : (l.take k).length ≤ k := List.length_take_le _ _
        obtain ⟨c, hc⟩ : ∃ c, l.getD k 0 = c := ⟨_, rfl⟩
        rw [hc] at d0 hsn
        have hob := orSpoilt_bd c
        have CM := fun W : World => umay_any c W
        have hos : (mayB c = true ∧ orSpoilt c = c) ∨ (mayB c = false ∧ orSpoilt c = 65533) := by
          unfold orSpoilt
          cases mayB c
          · exact .inr ⟨rfl, by simp⟩
          · exact .inl ⟨rfl, by simp⟩
        have hbl : (Lib.byteCells (joinL (l.take k))).length + 4 ≤ 140737488355328 := by rw [Lib.byteCells_length]; omega
        have HSN := Lib.hid hsn
        have HBL := Lib.hid hbl
        have hszw := HX.out.2.size
        clear hsn hc hjl hbl htl
        rcases hos with ⟨hm, ho⟩ | ⟨hm, ho⟩
        · rw [hm] at CM
          rw [ho] at hob HSN
          obtain ⟨hob0, hob1⟩ := hob
          clear hm ho
          go_wp2_with (first | (go_at_call 56; refine (CM _).mono ?_; rintro e w' ⟨rfl, rfl⟩))
          refine (bwrite_any w.heap.size w.heap.size _ c wr (by omega) (by omega) HX.out.1 HBL.out hszw).mono ?_
          rintro e w1 ⟨n, rfl, hb1, b1⟩
          rw [← Lib.byteCells_encodeRune, ← byteCells_app, ← HSN.out] at hb1
          have X1 : Aside (Lib.IsBuilder 71 5 w.heap.size w.heap.size (Lib.byteCells (joinL (l.take (k + 1)))) w1 ∧ Below w.heap.size w w1) := ⟨hb1, HX.out.2.trans b1⟩
          clear hb1 b1
          go_wp2
          go_roundw
          case rel => exact ⟨k + 1, by go_num, by omega, X1⟩
          case measure => simp [intOf]; omega
        · rw [hm] at CM
          rw [ho] at HSN
          clear hm ho hob
          go_wp2_with (first | (go_at_call 56; refine (CM _).mono ?_; rintro e w' ⟨rfl, rfl⟩))
          refine (bwrite_any w.heap.size w.heap.size _ 65533 wr (by omega) (by omega) HX.out.1 HBL.out hszw).mono ?_
          rintro e w1 ⟨n, rfl, hb1, b1⟩
          rw [← Lib.byteCells_encodeRune, ← byteCells_app, ← HSN.out] at hb1
          have X1 : Aside (Lib.IsBuilder 71 5 w.heap.size w.heap.size (Lib.byteCells (joinL (l.take (k + 1)))) w1 ∧ Below w.heap.size w w1) := ⟨hb1, HX.out.2.trans b1⟩
          clear hb1 b1
          go_wp2
          go_roundw
          case rel => exact ⟨k + 1, by go_num, by omega, X1⟩
          case measure => simp [intOf]; omega
      · have HE : Hid (joinL (l.take k) = joinL l) := by show _ = _; rw [List.take_of_length_le (by omega)]
        have hb2 := HX.out.1
        rw [HE.out] at hb2
        have HB2 := aside hb2
        have hszw := HX.out.2.size
        clear hb2
        go_wp2_with fail
        refine (Try.Builder_String_any w.heap.size w.heap.size (joinL l) wr HB2.out hszw).mono ?_
        rintro e w1 ⟨rfl, b1⟩
        have X1 := aside (HX.out.2.trans b1)
        clear b1
        go_wp2
        go_ret
        exact ⟨rfl, X1.out⟩
  · obtain rfl : l = [] := List.eq_nil_of_length_eq_zero (by omega)
    clear hA h0
    go_enter Try.func46, Try.ntmps46
    go_wp2
    refine wp_loop_rounds 1 ?_
    rw [rounds_succ]
    go_wp2_with fail
    refine (Try.Builder_String_any w.heap.size w.heap.size [] _ HBU.out (by simp)).mono ?_
    rintro e w1 ⟨rfl, b1⟩
    have X1 := aside (HNEW.out.trans b1)
    clear b1
    go_wp2
    go_ret
    exact ⟨rfl, X1.out⟩

end Go.Proofs.Ytaocnnebfnlgiaa
