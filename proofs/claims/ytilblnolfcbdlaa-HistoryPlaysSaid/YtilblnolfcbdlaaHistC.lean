/-
  Contracts of a history's methods.
-/
import Derived.Test.YtilblnolfcbdlaaHist
namespace Go.Proofs.Ytilblnolfcbdlaa
open Go.RowKit

section
variable (X : Nat → Prop) (b cap : Nat) (beh ah : List Int) (run : Int) (w : World)

set_option maxHeartbeats 1000000 in
theorem push_any (s : Int) (h : Hist w X b cap beh ah run) (hX : ∀ k, X k → k < w.heap.size) (hl : beh.length ≤ 1099511627776) (hcap : cap ≤ 1024) :
    Calls Try.prog 31 #[.pointer (some ⟨b, 0, none⟩), .int .i64 s] w fun e w' => e = .returned (.tuple #[]) ∧ Hist w' X b cap (pushL cap beh s) ah run ∧ Fr X b w w' := by
  obtain ⟨i0, hi, hz0, hz1, hz2⟩ := info_parts info_int2
  obtain ⟨vb, va, H⟩ := h
  have HH := aside H
  have hbl := H.lt
  have ob := H.ob
  have k1 := H.c1
  clear H
  by_cases hc : cap < beh.length + 1
  all_goals
    have HP : Hid (pushL cap beh s = if cap < beh.length + 1 then (beh ++ [s]).drop 1 else beh ++ [s]) := rfl
    go_enter Try.func31, Try.ntmps31
    go_wp2_with (first
      | (at_builtin
         refine wpList_append_lies _ rfl _ _ 27 rfl b 3 i0 (.int .i64 0) 1 8 Try.underlying27 hi hz0 hz1 hz2 rfl (by decide) _ _ _ rfl (ob.alloc _) ⟨w.heap.size, 0, none⟩ 1 1 [.int .i64 s] rfl rfl (cell_one_new _ _ _) (fun x hx => by simp at hx; subst hx; rfl) (by decide) (by unfold maxLen; omega) (by omega) (by simp; omega) _ rfl ?_
         intro g c2 w1 hown hgrow hat hlt
         have hblk1 : w1.heap[b]? = _ := (hgrow.block b (by simp; omega) (fun e => row_ne ob HH.out.blk b e.symm rfl)).trans ((Below.heap_alloc _ _ _ hbl).trans HH.out.blk)
         have hoa1 := own_grown (HH.out.oa.alloc _) hgrow (fun k e => (HH.out.xa k e).2)
         have hgb : g ≠ b := row_ne hown hblk1 g rfl
         have hgX : ¬ X g := by
           rcases hat with e | e
           · exact HH.out.xb g e
           · intro hx; have := hX g hx; simp at e; omega
         have hga : ∀ k, va.ownBlock = some k → g ≠ k := by
           intro k e
           rcases hat with e2 | e2
           · rintro rfl; exact (HH.out.xa g e).2 e2
           · have := (HH.out.oa.lt k e).2; simp at e2; omega
         have F1 : Fr X b w w1 := ((Fr.refl X b w).alloc _).grown hgrow (fun k e => ⟨(ob.lt k e).1, HH.out.xb k e⟩)
         have hown' : w1.ownsRow b 3 1 (.slice (some ⟨g, 0, none⟩) (beh.length + 1) c2) (beh ++ [s]).length (ints (beh ++ [s])) := by rw [ints_append, List.length_append]; exact hown
         have V1 := aside (HistV.setB hblk1 HH.out.nb hown' hoa1 (fun k e => by have : g = k := by simpa [Value.ownBlock] using e
                                                                                subst this; exact hgX) (fun k e => ⟨(HH.out.xa k e).1, fun e2 => hga k e (by simpa [Value.ownBlock] using e2)⟩))
         have F2 := aside (F1.setCell (p := ⟨b, 1, none⟩) (Nat.le_refl b) HH.out.nb (.slice (some ⟨g, 0, none⟩) (beh.length + 1) c2))
         have e0 : w1.cell? ⟨b, 0, none⟩ = some (.int .i64 (cap : Int)) := by rw [cell_of_row w1 b 0 _ _ _ hblk1]; rfl
         have e1 : w1.cell? ⟨b, 1, none⟩ = some vb := by rw [cell_of_row w1 b 1 _ _ _ hblk1]; rfl
         have z1 : w1.frozen? ⟨b, 1, none⟩ = false := frz_of_blk hblk1 1
         clear hown hgrow hat hblk1 hoa1 hown' F1 hga k1 ob))
    go_quiet (fail)
    go_wp2_with fail
  · refine (del_any b g c2 (beh.length + 1) (beh ++ [s]) _ (by simp) (by omega) (own_drewN V1.out.ob _)).mono ?_
    rintro e w3 ⟨rfl, hown3, hg3⟩
    have hblk3 : w3.heap[b]? = _ := (hg3.block b V1.out.lt (fun e => hgb (by injection e with e; exact e.symm))).trans V1.out.blk
    have hoa3 := own_grown (own_drewN V1.out.oa _) hg3 (fun k e e2 => (V1.out.xa k e).2 e2)
    have V3 := aside (HistV.setB (X := X) hblk3 HH.out.nb hown3 hoa3 (fun k e => by
      have : g = k := by simpa [Value.ownBlock] using e
      subst this; exact hgX) (fun k e => ⟨(HH.out.xa k e).1, fun e2 => (V1.out.xa k e).2 (by simpa [Value.ownBlock] using e2)⟩))
    have F3 := aside (((F2.out.drewN _).grown hg3 (fun k e => by
      injection e with e
      subst e
      exact ⟨(V1.out.ob.lt g rfl).1, hgX⟩)).setCell (p := ⟨b, 1, none⟩) (Nat.le_refl b) HH.out.nb (.slice (some ⟨g, 0, none⟩) (beh.length + 1 - 1) c2))
    have d1 : w3.cell? ⟨b, 1, none⟩ = some (.slice (some ⟨g, 0, none⟩) (beh.length + 1) c2) := by rw [cell_of_row w3 b 1 _ _ _ hblk3]; rfl
    have y1 : w3.frozen? ⟨b, 1, none⟩ = false := frz_of_blk hblk3 1
    clear hown3 hg3 hblk3 hoa3
    go_wp2
    go_end0
    exact ⟨rfl, ⟨_, _, by rw [HP.out, if_pos hc]; exact V3.out⟩, F3.out⟩
  · go_end0
    exact ⟨rfl, ⟨_, _, by rw [HP.out, if_neg hc]; exact V1.out.drewN _⟩, F2.out.drewN _⟩

/-- empty, of the row ahead. -/
theorem emptyA_any (h : Hist w X b cap beh ah run) :
    Calls Try.prog 32 #[.pointer (some ⟨b, 2, none⟩)] w fun e w' => e = .returned (.tuple #[]) ∧ Hist w' X b cap beh [] run ∧ Fr X b w w' := by
  obtain ⟨vb, va, H⟩ := h
  rcases H.oa.2 with ⟨rfl, h0⟩ | ⟨g, c, cur, rfl, hbg, hg, hnc, hcm, hsz, hcur⟩
  · refine (empty_nil w b 2 H.c2 (H.frz 2)).mono ?_
    rintro e w' ⟨rfl, rfl⟩
    exact ⟨rfl, ⟨vb, _, HistV.setA H.blk H.nb H.ob (World.ownsRow_nil _ _ _ _) H.xb (fun k e => by simp [Value.ownBlock] at e)⟩, (Fr.refl X b w).setCell (p := ⟨b, 2, none⟩) (Nat.le_refl _) H.nb _⟩
  · have hgX := H.xa g rfl
    have hgb : ¬ b = g := fun e => row_ne H.oa H.blk g rfl e.symm
    by_cases h0 : ah.length = 0
    · rw [h0] at H
      have c2 := H.c2
      refine (empty_zero w b 2 g c c2 (H.frz 2) hcm).mono ?_
      rintro e w' ⟨rfl, rfl⟩
      refine ⟨rfl, ⟨vb, _, HistV.setA H.blk H.nb H.ob ⟨rfl, .inr ⟨g, c, cur, rfl, hbg, hg, Nat.zero_le _, hcm, hsz, by simp [ints]⟩⟩ H.xb (fun k e => ?_)⟩, (Fr.refl X b w).setCell (p := ⟨b, 2, none⟩) (Nat.le_refl _) H.nb _⟩
      exact H.xa k e
    · have hcell : ∀ j, j < ah.length → (w.cell? ⟨g, 0 + j, none⟩).isSome = true := by
        intro j hj
        rw [Nat.zero_add, H.oa.cellAt j (by omega), ints_get ah j hj]; rfl
      refine (empty_pos w b 2 g c ah.length H.c2 (H.frz 2) (by omega) hnc hcm hgb hcell (fun j _ => frz_of_blk hg _)).mono ?_
      rintro e w' ⟨rfl, rfl⟩
      obtain ⟨cs', h1, h2⟩ := setCells_block g 3 (0, 0) (List.replicate ah.length (.int .i64 0)) 0 w cur hg
      have hob : (w.setCells g 0 (List.replicate ah.length (.int .i64 0))).ownsRow b 3 1 vb beh.length (ints beh) := own_grown (row := some g) H.ob
        (by have r := setCells_rest g (List.replicate ah.length (.int .i64 0)) 0 w
            exact ⟨r.1, r.2.1, r.2.2.1, by rw [r.2.2.2]; exact Nat.le_refl _, fun k hk hne => setCells_heap g _ 0 w k (fun e => hne (by rw [e]))⟩)
        (fun k e e2 => hgX.2 (by rw [e, e2]))
      refine ⟨rfl, ⟨vb, _, HistV.setA ((setCells_heap g _ 0 w b hgb).trans H.blk) H.nb hob ⟨rfl, .inr ⟨g, c, cs', rfl, hbg, h2, Nat.zero_le _, hcm, by rw [h1]; exact hsz, by simp [ints]⟩⟩ H.xb (fun k e => H.xa k e)⟩, ?_⟩
      exact ((Fr.refl X b w).setCells hbg hgX.1 0 _).setCell (p := ⟨b, 2, none⟩) (Nat.le_refl _) H.nb _

/-- empty, of the row behind. -/
theorem emptyB_any (h : Hist w X b cap beh ah run) :
    Calls Try.prog 32 #[.pointer (some ⟨b, 1, none⟩)] w fun e w' => e = .returned (.tuple #[]) ∧ Hist w' X b cap [] ah run ∧ Fr X b w w' := by
  obtain ⟨vb, va, H⟩ := h
  rcases H.ob.2 with ⟨rfl, h0⟩ | ⟨g, c, cur, rfl, hbg, hg, hnc, hcm, hsz, hcur⟩
  · refine (empty_nil w b 1 H.c1 (H.frz 1)).mono ?_
    rintro e w' ⟨rfl, rfl⟩
    exact ⟨rfl, ⟨_, va, HistV.setB H.blk H.nb (World.ownsRow_nil _ _ _ _) H.oa (fun k e => by simp [Value.ownBlock] at e) (fun k e => ⟨(H.xa k e).1, by simp [Value.ownBlock]⟩)⟩, (Fr.refl X b w).setCell (p := ⟨b, 1, none⟩) (Nat.le_refl _) H.nb _⟩
  · have hgX := H.xb g rfl
    have hgb : ¬ b = g := fun e => row_ne H.ob H.blk g rfl e.symm
    by_cases h0 : beh.length = 0
    · rw [h0] at H
      have c2 := H.c1
      refine (empty_zero w b 1 g c c2 (H.frz 1) hcm).mono ?_
      rintro e w' ⟨rfl, rfl⟩
      exact ⟨rfl, ⟨_, va, HistV.setB H.blk H.nb ⟨rfl, .inr ⟨g, c, cur, rfl, hbg, hg, Nat.zero_le _, hcm, hsz, by simp [ints]⟩⟩ H.oa (fun k e => H.xb k e) (fun k e => H.xa k e)⟩, (Fr.refl X b w).setCell (p := ⟨b, 1, none⟩) (Nat.le_refl _) H.nb _⟩
    · have hcell : ∀ j, j < beh.length → (w.cell? ⟨g, 0 + j, none⟩).isSome = true := by
        intro j hj
        rw [Nat.zero_add, H.ob.cellAt j (by omega), ints_get beh j hj]; rfl
      refine (empty_pos w b 1 g c beh.length H.c1 (H.frz 1) (by omega) hnc hcm hgb hcell (fun j _ => frz_of_blk hg _)).mono ?_
      rintro e w' ⟨rfl, rfl⟩
      obtain ⟨cs', h1, h2⟩ := setCells_block g 3 (0, 0) (List.replicate beh.length (.int .i64 0)) 0 w cur hg
      have hoa : (w.setCells g 0 (List.replicate beh.length (.int .i64 0))).ownsRow b 3 1 va ah.length (ints ah) := own_grown (row := some g) H.oa
        (by have r := setCells_rest g (List.replicate beh.length (.int .i64 0)) 0 w
            exact ⟨r.1, r.2.1, r.2.2.1, by rw [r.2.2.2]; exact Nat.le_refl _, fun k hk hne => setCells_heap g _ 0 w k (fun e => hne (by rw [e]))⟩)
        (fun k e e2 => (H.xa k e).2 e2)
      refine ⟨rfl, ⟨_, va, HistV.setB ((setCells_heap g _ 0 w b hgb).trans H.blk) H.nb ⟨rfl, .inr ⟨g, c, cs', rfl, hbg, h2, Nat.zero_le _, hcm, by rw [h1]; exact hsz, by simp [ints]⟩⟩ hoa (fun k e => H.xb k e) (fun k e => H.xa k e)⟩, ?_⟩
      exact ((Fr.refl X b w).setCells hbg hgX 0 _).setCell (p := ⟨b, 1, none⟩) (Nat.le_refl _) H.nb _

theorem brk_any (h : Hist w X b cap beh ah run) :
    Calls Try.prog 18 #[.pointer (some ⟨b, 0, none⟩)] w fun e w' => e = .returned (.tuple #[]) ∧ Hist w' X b cap beh ah 0 ∧ Fr X b w w' := by
  obtain ⟨vb, va, H⟩ := h
  refine (break_any w b run H.c3 (H.frz 3)).mono ?_
  rintro e w' ⟨rfl, rfl⟩
  exact ⟨rfl, ⟨vb, va, H.setR 0⟩, (Fr.refl X b w).setCell (p := ⟨b, 3, none⟩) (Nat.le_refl _) H.nb _⟩

end

def noteL (cap : Nat) (beh : List Int) (run : Int) (was r : Int) : List Int := if r = 0 ∨ r ≠ run then pushL cap beh was else beh

section
variable (X : Nat → Prop) (b cap : Nat) (beh ah : List Int) (run : Int) (w : World)

set_option maxHeartbeats 1000000 in
theorem note_any (was r : Int) (h : Hist w X b cap beh ah run) (hX : ∀ k, X k → k < w.heap.size) (hl : beh.length ≤ 1099511627776) (hcap : cap ≤ 1024) :
    Calls Try.prog 17 #[.pointer (some ⟨b, 0, none⟩), .int .i64 was, .int .i64 r] w fun e w' => e = .returned (.tuple #[]) ∧ Hist w' X b cap (noteL cap beh run was r) [] r ∧ Fr X b w w' := by
  have HH := aside h
  obtain ⟨vb, va, H⟩ := h
  have c3 := H.c3
  clear H
  by_cases hr : r = 0 ∨ r ≠ run
  · have hN := Lib.hid (show noteL cap beh run was r = pushL cap beh was by unfold noteL; rw [if_pos hr])
    rw [hN.out]
    by_cases h0 : r = 0
    · subst h0
      clear hr
      go_enter Try.func17, Try.ntmps17
      go_wp2_with fail
      refine (push_any X b cap beh ah run w was HH.out hX hl hcap).mono ?_
      rintro e w1 ⟨rfl, h1, f1⟩
      have H1 := aside h1
      obtain ⟨vb1, va1, V1⟩ := h1
      have c3' := V1.c3
      have z3' := V1.frz 3
      have H2 := aside (V1.setR 0)
      have F2 := aside (f1.setCell (p := ⟨b, 3, none⟩) (Nat.le_refl _) V1.nb (.int .i64 0))
      clear V1 f1 c3
      go_wp2_with fail
      refine (emptyA_any X b cap _ ah 0 _ ⟨_, _, H2.out⟩).mono ?_
      rintro e w3 ⟨rfl, h3, f3⟩
      go_wp2
      go_end0
      exact ⟨rfl, h3, F2.out.trans f3⟩
    · have hb0 : (r == 0) = false := by simpa using h0
      have hb1 : (r != run) = true := by simp; omega
      clear hr
      go_enter Try.func17, Try.ntmps17
      go_wp2_with fail
      refine (push_any X b cap beh ah run w was HH.out hX hl hcap).mono ?_
      rintro e w1 ⟨rfl, h1, f1⟩
      have H1 := aside h1
      obtain ⟨vb1, va1, V1⟩ := h1
      have c3' := V1.c3
      have z3' := V1.frz 3
      have H2 := aside (V1.setR r)
      have F2 := aside (f1.setCell (p := ⟨b, 3, none⟩) (Nat.le_refl _) V1.nb (.int .i64 r))
      clear V1 f1 c3
      go_wp2_with fail
      refine (emptyA_any X b cap _ ah r _ ⟨_, _, H2.out⟩).mono ?_
      rintro e w3 ⟨rfl, h3, f3⟩
      go_wp2
      go_end0
      exact ⟨rfl, h3, F2.out.trans f3⟩
  · have hN := Lib.hid (show noteL cap beh run was r = beh by unfold noteL; rw [if_neg hr])
    rw [hN.out]
    have h0 : ¬ r = 0 := fun e => hr (.inl e)
    have hb0 : (r == 0) = false := by simpa using h0
    obtain rfl : r = run := by omega
    clear hr
    have hb1 : (r != r) = false := by simp
    obtain ⟨vb1, va1, V1⟩ := HH.out
    have z3' := V1.frz 3
    have H2 := aside (V1.setR r)
    have F2 := aside ((Fr.refl X b w).setCell (p := ⟨b, 3, none⟩) (Nat.le_refl _) V1.nb (.int .i64 r))
    clear V1
    go_enter Try.func17, Try.ntmps17
    go_wp2_with fail
    refine (emptyA_any X b cap _ ah r _ ⟨_, _, H2.out⟩).mono ?_
    rintro e w3 ⟨rfl, h3, f3⟩
    go_wp2
    go_end0
    exact ⟨rfl, h3, F2.out.trans f3⟩

end
end Go.Proofs.Ytilblnolfcbdlaa
