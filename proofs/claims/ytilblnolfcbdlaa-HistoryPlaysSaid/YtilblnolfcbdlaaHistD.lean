/-
  Contracts of a history's methods: Undo, Redo, Len, Cap, Clear, New; the layer's example.
-/
import Derived.Test.YtilblnolfcbdlaaHistC
namespace Go.Proofs.Ytilblnolfcbdlaa
open Go.RowKit

theorem list_last (l : List Int) (h : 0 < l.length) : ∃ (m : List Int) (x : Int), l = m ++ [x] := by
  rcases List.eq_nil_or_concat l with rfl | ⟨m, x, rfl⟩
  · simp at h
  · exact ⟨m, x, by simp⟩

section
variable (X : Nat → Prop) (b cap : Nat) (beh ah : List Int) (run : Int) (w : World)

/-- What a pop of the row behind leaves. -/
theorem popB_some (x : Int) (h : Hist w X b cap (beh ++ [x]) ah run) :
    Calls Try.prog 33 #[.pointer (some ⟨b, 1, none⟩)] w fun e w' => e = .returned (.tuple #[.int .i64 x, .bool true]) ∧ Hist w' X b cap beh ah run ∧ Fr X b w w' := by
  obtain ⟨vb, va, H⟩ := h
  rcases H.ob.2 with ⟨rfl, h0⟩ | ⟨g, c, cur, rfl, hbg, hg, hnc, hcm, hsz, hcur⟩
  · simp at h0
  have hl : (beh ++ [x]).length = beh.length + 1 := by simp
  have ob := H.ob
  have c1 := H.c1
  rw [hl] at c1 ob hnc
  have hgb : ¬ g = b := row_ne H.ob H.blk g rfl
  have hx : w.cell? ⟨g, beh.length, none⟩ = some (.int .i64 x) := by
    rw [ob.cellAt beh.length (by omega), ints_get _ _ (by simp)]; simp
  rw [ints_append] at ob
  refine (pop_some w b 1 g c beh.length x c1 hx (H.frz 1) (frz_of_blk hg _) hgb (by omega) hcm).mono ?_
  rintro e w' ⟨rfl, rfl⟩
  have ob1 := ownsRow_pop (xs := ints beh) (last := ints [x]) (by rw [ints_length]; simp) ob
  have hst : (w.setCell ⟨g, beh.length, none⟩ (.int .i64 0)).ownsRow b 3 1 (.slice (some ⟨g, 0, none⟩) beh.length c) beh.length (ints beh) := by
    have hk := own_mk (w := w.setCell ⟨g, beh.length, none⟩ (.int .i64 0)) (B := b) (cap := c) (xs := ints beh) hbg (heap_set w g beh.length (.int .i64 0) _ _ _ hg) (by simpa using hsz) hcm (by rw [ints_length]; omega) (by
      intro j hj
      rw [ints_length] at hj
      rw [World.cell?_setCell_other _ _ _ _ (by intro e; injection e with _ e; omega)]
      exact ob1.cellAt j (by omega))
    rw [ints_length] at hk
    exact hk
  have hblk : (w.setCell ⟨g, beh.length, none⟩ (.int .i64 0)).heap[b]? = _ := (Below.heap_setCell _ _ _ _ (fun e => hgb e.symm)).trans H.blk
  exact ⟨rfl, ⟨_, va, HistV.setB hblk H.nb hst (own_setCell H.oa (fun e => (H.xa g e).2 rfl) _) H.xb H.xa⟩, ((Fr.refl X b w).setCell (p := ⟨g, beh.length, none⟩) hbg (H.xb g rfl) _).setCell (p := ⟨b, 1, none⟩) (Nat.le_refl _) H.nb _⟩

theorem popA_some (x : Int) (h : Hist w X b cap beh (ah ++ [x]) run) :
    Calls Try.prog 33 #[.pointer (some ⟨b, 2, none⟩)] w fun e w' => e = .returned (.tuple #[.int .i64 x, .bool true]) ∧ Hist w' X b cap beh ah run ∧ Fr X b w w' := by
  obtain ⟨vb, va, H⟩ := h
  rcases H.oa.2 with ⟨rfl, h0⟩ | ⟨g, c, cur, rfl, hbg, hg, hnc, hcm, hsz, hcur⟩
  · simp at h0
  have hl : (ah ++ [x]).length = ah.length + 1 := by simp
  have oa := H.oa
  have c1 := H.c2
  rw [hl] at c1 oa hnc
  have hgb : ¬ g = b := row_ne H.oa H.blk g rfl
  have hx : w.cell? ⟨g, ah.length, none⟩ = some (.int .i64 x) := by
    rw [oa.cellAt ah.length (by omega), ints_get _ _ (by simp)]; simp
  rw [ints_append] at oa
  refine (pop_some w b 2 g c ah.length x c1 hx (H.frz 2) (frz_of_blk hg _) hgb (by omega) hcm).mono ?_
  rintro e w' ⟨rfl, rfl⟩
  have oa1 := ownsRow_pop (xs := ints ah) (last := ints [x]) (by rw [ints_length]; simp) oa
  have hst : (w.setCell ⟨g, ah.length, none⟩ (.int .i64 0)).ownsRow b 3 1 (.slice (some ⟨g, 0, none⟩) ah.length c) ah.length (ints ah) := by
    have hk := own_mk (w := w.setCell ⟨g, ah.length, none⟩ (.int .i64 0)) (B := b) (cap := c) (xs := ints ah) hbg (heap_set w g ah.length (.int .i64 0) _ _ _ hg) (by simpa using hsz) hcm (by rw [ints_length]; omega) (by
      intro j hj
      rw [ints_length] at hj
      rw [World.cell?_setCell_other _ _ _ _ (by intro e; injection e with _ e; omega)]
      exact oa1.cellAt j (by omega))
    rw [ints_length] at hk
    exact hk
  have hblk : (w.setCell ⟨g, ah.length, none⟩ (.int .i64 0)).heap[b]? = _ := (Below.heap_setCell _ _ _ _ (fun e => hgb e.symm)).trans H.blk
  exact ⟨rfl, ⟨vb, _, HistV.setA hblk H.nb (own_setCell H.ob (fun e => (H.xa g rfl).2 e) _) hst H.xb (fun k e => H.xa k e)⟩, ((Fr.refl X b w).setCell (p := ⟨g, ah.length, none⟩) hbg (H.xa g rfl).1 _).setCell (p := ⟨b, 2, none⟩) (Nat.le_refl _) H.nb _⟩

theorem popB_none (h : Hist w X b cap [] ah run) :
    Calls Try.prog 33 #[.pointer (some ⟨b, 1, none⟩)] w fun e w' => e = .returned (.tuple #[.int .i64 0, .bool false]) ∧ w = w' := by
  obtain ⟨vb, va, H⟩ := h
  have c1 := H.c1
  rcases H.ob.2 with ⟨rfl, h0⟩ | ⟨g, c, cur, rfl, _⟩
  · exact pop_none w b 1 _ _ c1
  · exact pop_none w b 1 _ _ c1
theorem popA_none (h : Hist w X b cap beh [] run) :
    Calls Try.prog 33 #[.pointer (some ⟨b, 2, none⟩)] w fun e w' => e = .returned (.tuple #[.int .i64 0, .bool false]) ∧ w = w' := by
  obtain ⟨vb, va, H⟩ := h
  have c1 := H.c2
  rcases H.oa.2 with ⟨rfl, h0⟩ | ⟨g, c, cur, rfl, _⟩
  · exact pop_none w b 2 _ _ c1
  · exact pop_none w b 2 _ _ c1

set_option maxHeartbeats 1000000 in
theorem undo_none (now : Int) (h : Hist w X b cap [] ah run) :
    Calls Try.prog 20 #[.pointer (some ⟨b, 0, none⟩), .int .i64 now] w fun e w' => e = .returned (.tuple #[.int .i64 0, .int .i64 7]) ∧ w = w' := by
  go_enter Try.func20, Try.ntmps20
  go_wp2_with fail
  refine (popB_none X b cap ah run w h).mono ?_
  rintro e w' ⟨rfl, rfl⟩
  go_wp2
  go_ret2
  exact ⟨rfl, rfl⟩

set_option maxHeartbeats 1000000 in
theorem redo_none (now : Int) (h : Hist w X b cap beh [] run) :
    Calls Try.prog 21 #[.pointer (some ⟨b, 0, none⟩), .int .i64 now] w fun e w' => e = .returned (.tuple #[.int .i64 0, .int .i64 7]) ∧ w = w' := by
  go_enter Try.func21, Try.ntmps21
  go_wp2_with fail
  refine (popA_none X b cap beh run w h).mono ?_
  rintro e w' ⟨rfl, rfl⟩
  go_wp2
  go_ret2
  exact ⟨rfl, rfl⟩

set_option maxHeartbeats 1000000 in
theorem redo_some (now x : Int) (h : Hist w X b cap beh (ah ++ [x]) run) (hX : ∀ k, X k → k < w.heap.size) (hl : beh.length ≤ 1099511627776) (hcap : cap ≤ 1024) :
    Calls Try.prog 21 #[.pointer (some ⟨b, 0, none⟩), .int .i64 now] w fun e w' => e = .returned (.tuple #[.int .i64 x, .int .i64 0]) ∧ Hist w' X b cap (pushL cap beh now) ah 0 ∧ Fr X b w w' := by
  go_enter Try.func21, Try.ntmps21
  go_wp2_with fail
  refine (popA_some X b cap beh ah run w x h).mono ?_
  rintro e w1 ⟨rfl, h1, f1⟩
  go_wp2_with fail
  refine (push_any X b cap beh ah run w1 now h1 (fun k hk => Nat.lt_of_lt_of_le (hX k hk) f1.size) hl hcap).mono ?_
  rintro e w2 ⟨rfl, h2, f2⟩
  go_wp2_with fail
  refine (brk_any X b cap _ ah run w2 h2).mono ?_
  rintro e w3 ⟨rfl, h3, f3⟩
  go_wp2
  go_ret2
  exact ⟨rfl, h3, f1.trans (f2.trans f3)⟩

set_option maxHeartbeats 1000000 in
theorem undo_some (now x : Int) (h : Hist w X b cap (beh ++ [x]) ah run) (hX : ∀ k, X k → k < w.heap.size) (hl : ah.length ≤ 1099511627776) :
    Calls Try.prog 20 #[.pointer (some ⟨b, 0, none⟩), .int .i64 now] w fun e w' => e = .returned (.tuple #[.int .i64 x, .int .i64 0]) ∧ Hist w' X b cap beh (ah ++ [now]) 0 ∧ Fr X b w w' := by
  obtain ⟨i0, hi, hz0, hz1, hz2⟩ := info_parts info_int2
  go_enter Try.func20, Try.ntmps20
  go_wp2_with fail
  refine (popB_some X b cap beh ah run w x h).mono ?_
  rintro e w0 ⟨rfl, h1, f0⟩
  clear h
  obtain ⟨vb, va, H⟩ := h1
  have HH := aside H
  have F0 := aside f0
  have hX0 : Hid (∀ k, X k → k < w0.heap.size) := fun k hk => Nat.lt_of_lt_of_le (hX k hk) f0.size
  have hbl := H.lt
  have oa := H.oa
  have k2 := H.c2
  clear H f0 hX
  go_wp2_with (first
      | (at_builtin
         refine wpList_append_lies _ rfl _ _ 27 rfl b 3 i0 (.int .i64 0) 1 8 Try.underlying27 hi hz0 hz1 hz2 rfl (by decide) _ _ _ rfl (oa.alloc _) ⟨w0.heap.size, 0, none⟩ 1 1 [.int .i64 now] rfl rfl (cell_one_new _ _ _) (fun x hx => by simp at hx; subst hx; rfl) (by decide) (by unfold maxLen; omega) (by omega) (by simp; omega) _ rfl ?_
         intro g c2 w1 hown hgrow hat hlt
         have hblk1 : w1.heap[b]? = _ := (hgrow.block b (by simp; omega) (fun e => row_ne oa HH.out.blk b e.symm rfl)).trans ((Below.heap_alloc _ _ _ hbl).trans HH.out.blk)
         have hob1 := own_grown (HH.out.ob.alloc _) hgrow (fun k e e2 => (HH.out.xa k e2).2 e)
         have hgb : g ≠ b := row_ne hown hblk1 g rfl
         have hgX : ¬ X g := by
           rcases hat with e | e
           · exact (HH.out.xa g e).1
           · intro hx; have := hX0.out g hx; simp at e; omega
         have hga : vb.ownBlock ≠ some g := by
           rcases hat with e2 | e2
           · exact (HH.out.xa g e2).2
           · intro e; have := (HH.out.ob.lt g e).2; simp at e2; omega
         have F1 : Fr X b w w1 := (F0.out.alloc _).grown hgrow (fun k e => ⟨(oa.lt k e).1, (HH.out.xa k e).1⟩)
         have hown' : w1.ownsRow b 3 1 (.slice (some ⟨g, 0, none⟩) (ah.length + 1) c2) (ah ++ [now]).length (ints (ah ++ [now])) := by rw [ints_append, List.length_append]; exact hown
         have V1 := aside (HistV.setA hblk1 HH.out.nb hob1 hown' HH.out.xb (fun k e => by
           have : g = k := by simpa [Value.ownBlock] using e
           subst this; exact ⟨hgX, hga⟩))
         have F2 := aside (F1.setCell (p := ⟨b, 2, none⟩) (Nat.le_refl b) HH.out.nb (.slice (some ⟨g, 0, none⟩) (ah.length + 1) c2))
         have e1 : w1.cell? ⟨b, 2, none⟩ = some va := by rw [cell_of_row w1 b 2 _ _ _ hblk1]; rfl
         have z1 : w1.frozen? ⟨b, 2, none⟩ = false := frz_of_blk hblk1 2
         clear hown hgrow hat hblk1 hob1 hown' F1 hga k2 oa)
      | fail)
  refine (brk_any X b cap _ _ run _ ⟨_, _, V1.out⟩).mono ?_
  rintro e w3 ⟨rfl, h3, f3⟩
  go_wp2
  go_ret2
  exact ⟨rfl, h3, F2.out.trans f3⟩

set_option maxHeartbeats 400000 in
theorem len_any (h : Hist w X b cap beh ah run) :
    Calls Try.prog 19 #[.pointer (some ⟨b, 0, none⟩)] w fun e w' => e = .returned (.tuple #[.int .i64 beh.length, .int .i64 ah.length]) ∧ ∃ n, w' = w.drewN n := by
  obtain ⟨vb, va, H⟩ := h
  have c1 := H.c1
  have c2 := H.c2
  have s1 : ∃ A c, vb = .slice A beh.length c := by
    rcases H.ob.2 with ⟨rfl, h0⟩ | ⟨g, c, cur, rfl, _⟩
    · exact ⟨none, 0, by rw [h0]⟩
    · exact ⟨_, _, rfl⟩
  have s2 : ∃ A c, va = .slice A ah.length c := by
    rcases H.oa.2 with ⟨rfl, h0⟩ | ⟨g, c, cur, rfl, _⟩
    · exact ⟨none, 0, by rw [h0]⟩
    · exact ⟨_, _, rfl⟩
  obtain ⟨A1, k1, rfl⟩ := s1
  obtain ⟨A2, k2, rfl⟩ := s2
  clear H
  go_enter Try.func19, Try.ntmps19
  go_wp2
  go_quiet (fail)
  go_wp2
  go_ret2
  exact ⟨rfl, _, rfl⟩

set_option maxHeartbeats 400000 in
theorem cap_any (h : Hist w X b cap beh ah run) :
    Calls Try.prog 25 #[.pointer (some ⟨b, 0, none⟩)] w fun e w' => e = .returned (.int .i64 cap) ∧ w = w' := by
  obtain ⟨vb, va, H⟩ := h
  have c0 := H.c0
  clear H
  go_enter Try.func25, Try.ntmps25
  go_wp2
  go_ret
  exact ⟨rfl, rfl⟩

set_option maxHeartbeats 400000 in
theorem clear_any (h : Hist w X b cap beh ah run) :
    Calls Try.prog 22 #[.pointer (some ⟨b, 0, none⟩)] w fun e w' => e = .returned (.tuple #[]) ∧ Hist w' X b cap [] [] 0 ∧ Fr X b w w' := by
  go_enter Try.func22, Try.ntmps22
  go_wp2_with fail
  refine (emptyB_any X b cap beh ah run w h).mono ?_
  rintro e w1 ⟨rfl, h1, f1⟩
  go_wp2_with fail
  refine (emptyA_any X b cap [] ah run w1 h1).mono ?_
  rintro e w2 ⟨rfl, h2, f2⟩
  go_wp2_with fail
  refine (brk_any X b cap [] [] run w2 h2).mono ?_
  rintro e w3 ⟨rfl, h3, f3⟩
  go_wp2
  go_end0
  exact ⟨rfl, h3, f1.trans (f2.trans f3)⟩

set_option maxHeartbeats 400000 in
theorem new_in (n : Nat) (h0 : 1 ≤ n) (h1 : n ≤ 1024) :
    Calls Try.prog 16 #[.int .i64 n] w fun e w' => e = .returned (.tuple #[.pointer (some ⟨w.heap.size, 0, none⟩), .int .i64 0]) ∧ Hist w' (fun _ => False) w.heap.size n [] [] 0 ∧ Below w.heap.size w w' := by
  go_enter Try.func16, Try.ntmps16
  go_wp2
  go_ret2
  exact ⟨rfl, ⟨.slice none 0 0, .slice none 0 0, ⟨heap_alloc_new _ _, fun h => h, World.ownsRow_nil _ _ _ _, World.ownsRow_nil _ _ _ _, fun _ e => (by simp [Value.ownBlock] at e), fun _ e => (by simp [Value.ownBlock] at e)⟩⟩, (Below.refl _ _).alloc (Nat.le_refl _) _⟩

end
end Go.Proofs.Ytilblnolfcbdlaa
