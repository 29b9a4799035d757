/-
  Contracts of the reference's Note (a run that goes on), Undo, Redo.
-/
import Derived.Test.YtilblnolfcbdlaaRHistB
import Derived.Test.YtilblnolfcbdlaaSrc
namespace Go.Proofs.Ytilblnolfcbdlaa
open Go.RowKit

theorem RInts.src {w : World} {X : Nat → Prop} {A : Option Addr} {m c : Nat} {l : List Int} (h : RInts w X (.slice A m c) l) :
    (A = none → m = 0 ∧ c = 0) ∧ ∀ ad, A = some ad → ∀ j u, (ints l)[j]? = some u → w.cell? (ad.add j) = some u := by
  rcases h with ⟨h, rfl⟩ | ⟨b, off, c', h, h1, h2, hc⟩
  · injection h with e1 e2 e3
    subst e1 e2 e3
    exact ⟨fun _ => ⟨rfl, rfl⟩, fun ad h => by cases h⟩
  · injection h with e1 e2 e3
    subst e1 e2 e3
    refine ⟨(fun h => by cases h), fun ad h j u hu => ?_⟩
    injection h with h
    subst h
    have hj := (List.getElem?_eq_some_iff.1 hu).1
    rw [ints_length] at hj
    rw [ints_get l j hj] at hu
    injection hu with hu
    subst hu
    have ha : (⟨b, off, none⟩ : Addr).add j = ⟨b, off + j, none⟩ := by unfold Addr.add; split <;> simp_all
    rw [ha]
    exact (hc j hj).2
theorem Nx.up {X : Nat → Prop} {w : World} {k : Nat} (h : w.heap.size + 2 ≤ k) : Nx X w k := .inr h
theorem P2.grown {w W W' : World} {a b c d : Value} (h : P2 w W a b c d) {row : Option Nat} (hg : W.grownBy W' row) (hr : ∀ k, row = some k → w.heap.size + 2 ≤ k) : P2 w W' a b c d :=
  ⟨h.box.keep (hg.block _ h.box.lt (fun e => by have := hr _ e.symm; omega)), h.res.keep (hg.block _ h.res.lt (fun e => by have := hr _ e.symm; omega)),
   Below.grown h.below hg (by have := h.size; omega) (fun k e => by have := hr k e; omega), Nat.le_trans h.size hg.size⟩
theorem P2.alloc {w W : World} {a b c d : Value} (h : P2 w W a b c d) (o : Obj) : P2 w (W.alloc o) a b c d :=
  ⟨h.box.keep (Below.heap_alloc _ _ _ h.box.lt), h.res.keep (Below.heap_alloc _ _ _ h.res.lt), h.below.alloc (by have := h.size; omega) o, Nat.le_trans h.size (by simp)⟩
theorem P2.set2 {w W : World} {a b c d : Value} (h : P2 w W a b c d) (v : Value) : P2 w (W.setCell ⟨w.heap.size, 2, none⟩ v) a b v d :=
  ⟨h.box.set2 v, h.res.far (by simp) v, h.below.setCell (by simp) v, by simpa using h.size⟩
theorem P2.set1 {w W : World} {a b c d : Value} (h : P2 w W a b c d) (v : Value) : P2 w (W.setCell ⟨w.heap.size, 1, none⟩ v) a v c d :=
  ⟨h.box.set1 v, h.res.far (by simp) v, h.below.setCell (by simp) v, by simpa using h.size⟩

set_option maxHeartbeats 400000 in
theorem rnote_keep (cap : Nat) (X : Nat → Prop) (vb va : Value) (beh ah : List Int) (was r : Int) (w : World) (hb : RInts w X vb beh) (ha : RInts w X va ah) (hr : r ≠ 0) :
    Calls Try.prog 34 #[.agg #[.int .i64 (cap : Int), vb, va, .int .i64 r], .int .i64 was, .int .i64 r] w fun e w' => e = .returned (.agg #[.int .i64 (cap : Int), vb, .slice none 0 0, .int .i64 r]) ∧ RInts w' (Nx X w) vb beh ∧ Below w.heap.size w w' := by
  obtain ⟨Ab, cb, rfl⟩ := hb.form_
  obtain ⟨Aa, ca, rfl⟩ := ha.form_
  have HB := aside (hb.old.more (X' := Nx X w) (fun k hk _ => .inl hk))
  have h0 : (r == 0) = false := by simp [hr]
  have h1 : (r != r) = false := by simp
  clear hb ha hr
  obtain ⟨nb, hnb⟩ : ∃ nb, beh.length = nb := ⟨_, rfl⟩
  rw [hnb] at HB ⊢
  obtain ⟨na, hna⟩ : ∃ na, ah.length = na := ⟨_, rfl⟩
  clear hna hnb
  go_enter Try.func34, Try.ntmps34
  go_wp2_with fail
  refine bodyPost_ret_by (results_cell_row (by rfl) _ _ (w.heap.size + 1) _ _ _ _ rfl (?_ : Blk4 _ (w.heap.size + 1) (.int .i64 (cap : Int)) (.slice Ab nb cb) (.slice none 0 0) (.int .i64 _)) Try.underlying47 rfl (by kernel_rfl)) rfl ⟨rfl, ?_, ?_⟩
  · exact heap_alloc2_new w _ _
  · exact (HB.out.alloc _).alloc _
  · exact ((Below.refl _ _).alloc (Nat.le_refl _) _).alloc (by simp) _

set_option maxHeartbeats 400000 in
theorem rundo_none (cap : Nat) (X : Nat → Prop) (va : Value) (cb : Nat) (Ab : Option Addr) (ah : List Int) (now run : Int) (w : World) (ha : RInts w X va ah) :
    Calls Try.prog 35 #[.agg #[.int .i64 (cap : Int), .slice Ab 0 cb, va, .int .i64 run], .int .i64 now] w fun e w' => e = .returned (.tuple #[.agg #[.int .i64 (cap : Int), .slice Ab 0 cb, va, .int .i64 run], .int .i64 0, .int .i64 7]) ∧ RInts w' (Nx X w) va ah ∧ Below w.heap.size w w' := by
  obtain ⟨Aa, ca, rfl⟩ := ha.form_
  have HB := aside (ha.old.more (X' := Nx X w) (fun k hk _ => .inl hk))
  clear ha
  obtain ⟨na, hna⟩ : ∃ na, ah.length = na := ⟨_, rfl⟩
  rw [hna] at HB ⊢
  clear hna
  go_enter Try.func35, Try.ntmps35
  go_wp2_with fail
  refine bodyPost_ret_by (results_cell_three (by rfl) _ _ (w.heap.size + 1) _ _ _ _ _ _ rfl rfl rfl (heap_alloc2_new w _ _) Try.underlying47 rfl (by kernel_rfl)) rfl ⟨rfl, ?_, ?_⟩
  · exact (HB.out.alloc _).alloc _
  · exact ((Below.refl _ _).alloc (Nat.le_refl _) _).alloc (by simp) _

set_option maxHeartbeats 400000 in
theorem rundo_some (cap : Nat) (X : Nat → Prop) (vb va : Value) (beh ah : List Int) (x now run : Int) (w : World) (hb : RInts w X vb (beh ++ [x])) (ha : RInts w X va ah) (hl : ah.length ≤ 1099511627776) :
    Calls Try.prog 35 #[.agg #[.int .i64 (cap : Int), vb, va, .int .i64 run], .int .i64 now] w fun e w' => ∃ vb' va', e = .returned (.tuple #[.agg #[.int .i64 (cap : Int), vb', va', .int .i64 0], .int .i64 x, .int .i64 0]) ∧ RInts w' (Nx X w) vb' beh ∧ RInts w' (Nx X w) va' (ah ++ [now]) ∧ Below w.heap.size w w' := by
  obtain ⟨i0, hi, hz0, hz1, hz2⟩ := info_parts info_int6
  obtain ⟨b, off, c, rfl, hc1, hc2, hX, hx, hb2⟩ := hb.init
  obtain ⟨Aa, ca, rfl⟩ := ha.form_
  have HB := aside hb2.old
  have HA := aside ha
  clear ha hb hb2
  obtain ⟨n, hn⟩ : ∃ n, beh.length = n := ⟨_, rfl⟩
  rw [hn] at HB hx hc1 ⊢
  clear hn
  obtain ⟨m, hm⟩ : ∃ m, ah.length = m := ⟨_, rfl⟩
  rw [hm] at HA hl ⊢
  have HM := Lib.hid hm
  clear hm
  have hbw : b < w.heap.size := World.block_lt_of_cell? w _ hx
  have HS := Lib.hid (P2.start w (.int .i64 (cap : Int)) (.slice (some ⟨b, off, none⟩) (n + 1) c) (.slice Aa m ca) (.int .i64 run))
  have HAW := Lib.hid (HA.out.old.alloc (.cells #[.int .i64 (cap : Int), .slice (some ⟨b, off, none⟩) (n + 1) c, .slice Aa m ca, .int .i64 run] 47) |>.alloc (.cells #[.int .i64 0, .slice none 0 0, .slice none 0 0, .int .i64 0] 47))
  have HBW := Lib.hid ((HB.out.alloc (.cells #[.int .i64 (cap : Int), .slice (some ⟨b, off, none⟩) (n + 1) c, .slice Aa m ca, .int .i64 run] 47)).alloc (.cells #[.int .i64 0, .slice none 0 0, .slice none 0 0, .int .i64 0] 47))
  have HIL : Hid ((ints ah).length = m * 1) := by show _ = _; rw [ints_length, HM.out, Nat.mul_one]
  go_enter Try.func35, Try.ntmps35
  go_wp2_with (first
    | (at_builtin
       refine wpList_append_src rfl (.tmp 22) (.tmp 24) 27 rfl (w.heap.size + 2) 3 i0 (.int .i64 0) 1 8 Try.underlying27 hi hz0 hz1 hz2 rfl (by decide) (.slice none 0 0) 0 [] rfl (World.ownsRow_nil _ _ _ _) Aa m ca (ints ah) rfl HAW.out.src.1 HIL.out HAW.out.src.2 (ints_one ah) (by unfold maxLen; omega) (by omega) (by simp) ?_
       intro v1 W1 hown1 hgrow1 hat1
       rw [Nat.zero_add, List.nil_append] at hown1
       have Y1 := aside (HS.out.grown hgrow1 (fun k e => by simp [Value.ownBlock] at e))
       have O1 := aside hown1
       have B1 : Aside (RInts W1 (fun k => X k ∧ k < w.heap.size) (.slice (some ⟨b, off, none⟩) n c) beh) := HBW.out.keep (fun k hk hlt => ⟨hk, hgrow1.block k hlt (by simp [Value.ownBlock])⟩)
       have e0 := Y1.out.box.c0
       have e1 := Y1.out.box.c1
       have e2 := Y1.out.box.c2
       have e3 := Y1.out.box.c3
       have ef := Y1.out.box.fz
       clear hown1 hgrow1 hat1 HS HAW HBW)
    | (at_builtin
       refine wpList_append_lies _ rfl (.tmp 26) (.tmp 28) 27 rfl (w.heap.size + 2) 3 i0 (.int .i64 0) 1 8 Try.underlying27 hi hz0 hz1 hz2 rfl (by decide) v1 m (ints ah) rfl (O1.out.alloc _) ⟨W1.heap.size, 0, none⟩ 1 1 [.int .i64 now] rfl rfl (cell_one_new _ _ _) (fun x hx => by simp at hx; subst hx; rfl) (by decide) (by unfold maxLen; omega) (by omega) (by have := Y1.out.size; simp; omega) _ rfl ?_
       intro g c2 w3 hown3 hgrow hat hlt
       have Y3 := aside ((Y1.out.alloc _).grown hgrow (fun k e => (O1.out.lt k e).1))
       have O3 : Aside (w3.ownsRow (w.heap.size + 2) 3 1 (.slice (some ⟨g, 0, none⟩) (m + 1) c2) (ah ++ [now]).length (ints (ah ++ [now]))) := by rw [List.length_append, HM.out, ints_append]; exact hown3
       have B3 : Aside (RInts w3 (fun k => X k ∧ k < w.heap.size) (.slice (some ⟨b, off, none⟩) n c) beh) := (B1.out.alloc (.cells #[.int .i64 now] 3)).keep (fun k hk hlt => ⟨hk, hgrow.block k hlt (fun e => by have h1 := (O1.out.lt k e.symm).1; have h2 := hk.2; omega)⟩)
       have hcap2 : m + 1 ≤ c2 ∧ c2 ≤ 9223372036854775807 := by
         rcases hown3.2 with ⟨h1, _⟩ | ⟨g', cap', cur, hv, hB, hh, hnc, hcm, _⟩
         · cases h1
         · injection hv with e1 e2 e3
           subst e3
           exact ⟨hnc, hcm⟩
       obtain ⟨hca, hcb⟩ := hcap2
       clear e0 e1 e2 e3 ef
       have e0 := Y3.out.box.c0
       have e1 := Y3.out.box.c1
       have e2 := Y3.out.box.c2
       have e3 := Y3.out.box.c3
       have ef := Y3.out.box.fz
       have q0 := Y3.out.res.c0
       have q1 := Y3.out.res.c1
       have q2 := Y3.out.res.c2
       have q3 := Y3.out.res.c3
       have qf := Y3.out.res.fz
       clear hown3 hgrow hat hlt)
    | fail)
  have K1 := Blk4.setAll (a' := .int .i64 (cap : Int)) (b' := .slice (some ⟨b, off, none⟩) n c) (c' := .slice (some ⟨g, 0, none⟩) (m + 1) c2) (d' := .int .i64 0) (((Y3.out.res.far (p := ⟨w.heap.size, 2, none⟩) (by simp) (.slice (some ⟨g, 0, none⟩) (m + 1) c2)).far (p := ⟨w.heap.size, 1, none⟩) (by simp) (.slice (some ⟨b, off, none⟩) n c)).far (p := ⟨w.heap.size, 3, none⟩) (by simp) (.int .i64 0))
  refine bodyPost_ret_by (results_cell_three (by rfl) _ _ (w.heap.size + 1) _ _ _ _ _ _ rfl rfl rfl K1 Try.underlying47 rfl (by kernel_rfl)) rfl ⟨_, _, rfl, ?_, ?_, ?_⟩
  · have B4 := B3.out.more (X' := Nx X w) (fun k hk _ => .inl hk)
    exact (((((((B4.set Nx.ne0 _).set Nx.ne0 _).set Nx.ne0 _).set Nx.ne1 _).set Nx.ne1 _).set Nx.ne1 _).set Nx.ne1 _)
  · have B4 := RInts.of_own (X := Nx X w) O3.out (fun k e => .inr (O3.out.lt k e).1)
    exact (((((((B4.set Nx.ne0 _).set Nx.ne0 _).set Nx.ne0 _).set Nx.ne1 _).set Nx.ne1 _).set Nx.ne1 _).set Nx.ne1 _)
  · exact (((((((Y3.out.below.setCell (by simp) _).setCell (by simp) _).setCell (by simp) _).setCell (by simp) _).setCell (by simp) _).setCell (by simp) _).setCell (by simp) _)

set_option maxHeartbeats 400000 in
theorem rredo_none (cap : Nat) (X : Nat → Prop) (vb : Value) (ca : Nat) (Aa : Option Addr) (beh : List Int) (now run : Int) (w : World) (ha : RInts w X vb beh) :
    Calls Try.prog 36 #[.agg #[.int .i64 (cap : Int), vb, .slice Aa 0 ca, .int .i64 run], .int .i64 now] w fun e w' => e = .returned (.tuple #[.agg #[.int .i64 (cap : Int), vb, .slice Aa 0 ca, .int .i64 run], .int .i64 0, .int .i64 7]) ∧ RInts w' (Nx X w) vb beh ∧ Below w.heap.size w w' := by
  obtain ⟨Ab, cb, rfl⟩ := ha.form_
  have HB := aside (ha.old.more (X' := Nx X w) (fun k hk _ => .inl hk))
  clear ha
  obtain ⟨na, hna⟩ : ∃ na, beh.length = na := ⟨_, rfl⟩
  rw [hna] at HB ⊢
  clear hna
  go_enter Try.func36, Try.ntmps36
  go_wp2_with fail
  refine bodyPost_ret_by (results_cell_three (by rfl) _ _ (w.heap.size + 1) _ _ _ _ _ _ rfl rfl rfl (heap_alloc2_new w _ _) Try.underlying47 rfl (by kernel_rfl)) rfl ⟨rfl, ?_, ?_⟩
  · exact (HB.out.alloc _).alloc _
  · exact ((Below.refl _ _).alloc (Nat.le_refl _) _).alloc (by simp) _

set_option maxHeartbeats 400000 in
theorem rredo_some (cap : Nat) (X : Nat → Prop) (vb va : Value) (beh ah : List Int) (x now run : Int) (w : World) (hb : RInts w X vb beh) (ha : RInts w X va (ah ++ [x])) (hc0 : 1 ≤ cap) (hc1 : cap ≤ 1024) (hl : beh.length ≤ cap) :
    Calls Try.prog 36 #[.agg #[.int .i64 (cap : Int), vb, va, .int .i64 run], .int .i64 now] w fun e w' => ∃ vb' va', e = .returned (.tuple #[.agg #[.int .i64 (cap : Int), vb', va', .int .i64 0], .int .i64 x, .int .i64 0]) ∧ RInts w' (Nx X w) vb' (pushL cap beh now) ∧ RInts w' (Nx X w) va' ah ∧ Below w.heap.size w w' := by
  obtain ⟨b, off, c, rfl, hn1, hn2, hX, hx, ha2⟩ := ha.init
  obtain ⟨Ab, cb, rfl⟩ := hb.form_
  have HA := aside ha2.old
  have HB := aside hb
  have RP := Lib.hid (fun (W : World) (va : Nat) (h : RInts W (fun k => X k ∧ k < w.heap.size) (.slice Ab beh.length cb) beh) => rpush_any cap (fun k => X k ∧ k < w.heap.size) (.slice Ab beh.length cb) (some ⟨b, off, none⟩) va c beh run now W h hc0 hc1 hl)
  clear ha hb ha2
  obtain ⟨n, hn⟩ : ∃ n, ah.length = n := ⟨_, rfl⟩
  rw [hn] at HA hx hn1 ⊢
  clear hn
  obtain ⟨m, hm⟩ : ∃ m, beh.length = m := ⟨_, rfl⟩
  rw [hm] at HB RP hl ⊢
  clear hm
  have hbw : b < w.heap.size := World.block_lt_of_cell? w _ hx
  have HS := aside (P2.start w (.int .i64 (cap : Int)) (.slice Ab m cb) (.slice (some ⟨b, off, none⟩) n c) (.int .i64 run))
  have HBW := aside (HB.out.old.alloc (.cells #[.int .i64 (cap : Int), .slice Ab m cb, .slice (some ⟨b, off, none⟩) n c, .int .i64 run] 47) |>.alloc (.cells #[.int .i64 0, .slice none 0 0, .slice none 0 0, .int .i64 0] 47))
  have HAW := aside ((HA.out.alloc (.cells #[.int .i64 (cap : Int), .slice Ab m cb, .slice (some ⟨b, off, none⟩) n c, .int .i64 run] 47)).alloc (.cells #[.int .i64 0, .slice none 0 0, .slice none 0 0, .int .i64 0] 47))
  go_enter Try.func36, Try.ntmps36
  go_wp2_with fail
  obtain ⟨W, hW⟩ : ∃ W, W = (w.alloc (.cells #[.int .i64 (cap : Int), .slice Ab m cb, .slice (some ⟨b, off, none⟩) n c, .int .i64 run] 47)).alloc (.cells #[.int .i64 0, .slice none 0 0, .slice none 0 0, .int .i64 0] 47) := ⟨_, rfl⟩
  rw [← hW]
  rw [← hW] at HS HBW HAW
  clear hW
  refine (RP.out W n HBW.out).mono ?_
  rintro e w1 ⟨vb', rfl, r1, b1⟩
  obtain ⟨A1, c1, hv1⟩ := r1.form_
  obtain ⟨n1, hn1'⟩ : ∃ n1, (pushL cap beh now).length = n1 := ⟨_, rfl⟩
  rw [hn1'] at hv1
  clear hn1'
  subst hv1
  have Y1 := aside (HS.out.next b1)
  have R1 : Aside (RInts w1 (Nx X w) _ (pushL cap beh now)) := r1.more (X' := Nx X w) (fun k hk _ => .inr (Nat.le_trans HS.out.size hk))
  have A1' : Aside (RInts w1 (Nx X w) (.slice (some ⟨b, off, none⟩) n c) ah) := (HAW.out.below b1).more (X' := Nx X w) (fun k hk _ => .inl hk)
  have e0 := Y1.out.box.c0
  have e1 := Y1.out.box.c1
  have e2 := Y1.out.box.c2
  have e3 := Y1.out.box.c3
  have ef := Y1.out.box.fz
  clear r1 b1 HS HB RP HBW HAW HA
  go_upto_region 7 with (fail)
  refine wp_name ?_
  intro W2 hW2
  have Y2 : Aside (P2 w W2 (.int .i64 (cap : Int)) (.slice A1 n1 c1) (.slice (some ⟨b, off, none⟩) n c) (.int .i64 run)) := by rw [hW2]; exact Y1.out.setBox
  have R2 : Aside (RInts W2 (Nx X w) (.slice A1 n1 c1) (pushL cap beh now)) := by rw [hW2]; exact (((R1.out.set Nx.ne0 _).set Nx.ne0 _).set Nx.ne0 _).set Nx.ne0 _
  have A2 : Aside (RInts W2 (Nx X w) (.slice (some ⟨b, off, none⟩) n c) ah) := by rw [hW2]; exact (((A1'.out.set Nx.ne0 _).set Nx.ne0 _).set Nx.ne0 _).set Nx.ne0 _
  clear hW2 e0 e1 e2 e3 ef
  have e0 := Y2.out.box.c0
  have e1 := Y2.out.box.c1
  have e2 := Y2.out.box.c2
  have e3 := Y2.out.box.c3
  have ef := Y2.out.box.fz
  have q0 := Y2.out.res.c0
  have q1 := Y2.out.res.c1
  have q2 := Y2.out.res.c2
  have q3 := Y2.out.res.c3
  have qf := Y2.out.res.fz
  go_wp2_with fail
  have K1 := Blk4.setAll (a' := .int .i64 (cap : Int)) (b' := .slice A1 n1 c1) (c' := .slice (some ⟨b, off, none⟩) n c) (d' := .int .i64 0) (Y2.out.res.far (p := ⟨w.heap.size, 3, none⟩) (by simp) (.int .i64 0))
  refine bodyPost_ret_by (results_cell_three (by rfl) _ _ (w.heap.size + 1) _ _ _ _ _ _ rfl rfl rfl K1 Try.underlying47 rfl (by kernel_rfl)) rfl ⟨_, _, rfl, ?_, ?_, ?_⟩
  · exact ((((R2.out.set Nx.ne0 _).set Nx.ne1 _).set Nx.ne1 _).set Nx.ne1 _).set Nx.ne1 _
  · exact ((((A2.out.set Nx.ne0 _).set Nx.ne1 _).set Nx.ne1 _).set Nx.ne1 _).set Nx.ne1 _
  · exact ((((Y2.out.below.setCell (by simp) _).setCell (by simp) _).setCell (by simp) _).setCell (by simp) _).setCell (by simp) _

end Go.Proofs.Ytilblnolfcbdlaa
