/-
  The contract of the law's do: one step of the program's history.
-/
import Derived.Test.YtilblnolfcbdlaaRHistD
import Derived.Test.YtilblnolfcbdlaaHistL
namespace Go.Proofs.Ytilblnolfcbdlaa
open Go.RowKit

/-- How do ends. -/
def PdoEnds (cap : Nat) (X : Nat → Prop) (b : Nat) (w : World) (s : HS) (e : Ending) (w' : World) : Prop :=
  e = .returned (.tuple #[.int .i64 s.x, .int .i64 s.e]) ∧ Hist w' X b cap s.beh s.ah s.run ∧ Fr X b w w'

section
variable (cap b : Nat) (X : Nat → Prop) (beh ah : List Int) (run a what : Int) (w : World)

set_option maxHeartbeats 400000 in
theorem pdo_note (h : Hist w X b cap beh ah run) (hX : ∀ k, X k → k < w.heap.size) (hl : beh.length ≤ 1099511627776) (hcap : cap ≤ 1024) (hw0 : 0 ≤ what) (hw1 : what < 4) :
    Calls Try.prog 24 #[.pointer (some ⟨b, 0, none⟩), .int .i64 what, .int .i64 a] w (PdoEnds cap X b w ⟨noteL cap beh run a (what % 3), [], what % 3, 0, 0⟩) := by
  go_enter Try.func24, Try.ntmps24
  go_wp2_with fail
  refine (note_any X b cap beh ah run w a (what % 3) h hX hl hcap).mono ?_
  rintro e w1 ⟨rfl, h1, f1⟩
  go_wp2
  go_ret2
  exact ⟨rfl, h1, f1⟩

set_option maxHeartbeats 400000 in
theorem pdo_brk (h : Hist w X b cap beh ah run) :
    Calls Try.prog 24 #[.pointer (some ⟨b, 0, none⟩), .int .i64 4, .int .i64 a] w (PdoEnds cap X b w ⟨beh, ah, 0, 0, 0⟩) := by
  go_enter Try.func24, Try.ntmps24
  go_wp2_with fail
  refine (brk_any X b cap beh ah run w h).mono ?_
  rintro e w1 ⟨rfl, h1, f1⟩
  go_wp2
  go_ret2
  exact ⟨rfl, h1, f1⟩

set_option maxHeartbeats 400000 in
theorem pdo_undo_none (h : Hist w X b cap [] ah run) (hw0 : 4 < what) (hw1 : what < 7) :
    Calls Try.prog 24 #[.pointer (some ⟨b, 0, none⟩), .int .i64 what, .int .i64 a] w (PdoEnds cap X b w ⟨[], ah, run, 0, 7⟩) := by
  go_enter Try.func24, Try.ntmps24
  go_wp2_with fail
  refine (undo_none X b cap ah run w a h).mono ?_
  rintro e w1 ⟨rfl, rfl⟩
  go_wp2
  go_ret2
  exact ⟨rfl, h, Fr.refl _ _ _⟩

set_option maxHeartbeats 400000 in
theorem pdo_undo_some (x : Int) (h : Hist w X b cap (beh ++ [x]) ah run) (hX : ∀ k, X k → k < w.heap.size) (hl : ah.length ≤ 1099511627776) (hw0 : 4 < what) (hw1 : what < 7) :
    Calls Try.prog 24 #[.pointer (some ⟨b, 0, none⟩), .int .i64 what, .int .i64 a] w (PdoEnds cap X b w ⟨beh, ah ++ [a], 0, x, 0⟩) := by
  go_enter Try.func24, Try.ntmps24
  go_wp2_with fail
  refine (undo_some X b cap beh ah run w a x h hX hl).mono ?_
  rintro e w1 ⟨rfl, h1, f1⟩
  go_wp2
  go_ret2
  exact ⟨rfl, h1, f1⟩

set_option maxHeartbeats 400000 in
theorem pdo_redo_none (h : Hist w X b cap beh [] run) (hw0 : 7 ≤ what) (hw1 : what < 9) :
    Calls Try.prog 24 #[.pointer (some ⟨b, 0, none⟩), .int .i64 what, .int .i64 a] w (PdoEnds cap X b w ⟨beh, [], run, 0, 7⟩) := by
  go_enter Try.func24, Try.ntmps24
  go_wp2_with fail
  refine (redo_none X b cap beh run w a h).mono ?_
  rintro e w1 ⟨rfl, rfl⟩
  go_wp2
  go_ret2
  exact ⟨rfl, h, Fr.refl _ _ _⟩

set_option maxHeartbeats 400000 in
theorem pdo_redo_some (x : Int) (h : Hist w X b cap beh (ah ++ [x]) run) (hX : ∀ k, X k → k < w.heap.size) (hl : beh.length ≤ 1099511627776) (hcap : cap ≤ 1024) (hw0 : 7 ≤ what) (hw1 : what < 9) :
    Calls Try.prog 24 #[.pointer (some ⟨b, 0, none⟩), .int .i64 what, .int .i64 a] w (PdoEnds cap X b w ⟨pushL cap beh a, ah, 0, x, 0⟩) := by
  go_enter Try.func24, Try.ntmps24
  go_wp2_with fail
  refine (redo_some X b cap beh ah run w a x h hX hl hcap).mono ?_
  rintro e w1 ⟨rfl, h1, f1⟩
  go_wp2
  go_ret2
  exact ⟨rfl, h1, f1⟩

set_option maxHeartbeats 400000 in
theorem pdo_clear (h : Hist w X b cap beh ah run) (hw0 : 9 ≤ what) :
    Calls Try.prog 24 #[.pointer (some ⟨b, 0, none⟩), .int .i64 what, .int .i64 a] w (PdoEnds cap X b w ⟨[], [], 0, 0, 0⟩) := by
  go_enter Try.func24, Try.ntmps24
  go_wp2_with fail
  refine (clear_any X b cap beh ah run w h).mono ?_
  rintro e w1 ⟨rfl, h1, f1⟩
  go_wp2
  go_ret2
  exact ⟨rfl, h1, f1⟩

/-- One step, whatever it is. -/
theorem pdo_any (h : Hist w X b cap beh ah run) (hX : ∀ k, X k → k < w.heap.size) (hl : beh.length ≤ 1000000) (hl2 : ah.length ≤ 1000000) (hcap : cap ≤ 1024) (hw : 0 ≤ what) :
    Calls Try.prog 24 #[.pointer (some ⟨b, 0, none⟩), .int .i64 what, .int .i64 a] w (PdoEnds cap X b w (stp cap what a ⟨beh, ah, run, 0, 0⟩)) := by
  unfold stp
  by_cases h4 : what < 4
  · rw [if_pos h4]
    exact pdo_note cap b X beh ah run a what w h hX (by omega) hcap hw h4
  · rw [if_neg h4]
    by_cases h5 : what = 4
    · subst h5
      rw [if_pos rfl]
      exact pdo_brk cap b X beh ah run a w h
    · rw [if_neg h5]
      by_cases h7 : what < 7
      · rw [if_pos h7]
        rcases List.eq_nil_or_concat beh with rfl | ⟨m, x, rfl⟩
        · exact pdo_undo_none cap b X ah run a what w h (by omega) h7
        · rw [List.concat_eq_append] at h ⊢
          have e1 : (m ++ [x] = []) = False := by simp
          simp only [e1, if_false, List.dropLast_concat, List.getLastD_concat]
          exact pdo_undo_some cap b X m ah run a what w x h hX (by omega) (by omega) h7
      · rw [if_neg h7]
        by_cases h9 : what < 9
        · rw [if_pos h9]
          rcases List.eq_nil_or_concat ah with rfl | ⟨m, x, rfl⟩
          · exact pdo_redo_none cap b X beh run a what w h (by omega) h9
          · rw [List.concat_eq_append] at h ⊢
            have e1 : (m ++ [x] = []) = False := by simp
            simp only [e1, if_false, List.dropLast_concat, List.getLastD_concat]
            exact pdo_redo_some cap b X beh m run a what w x h hX (by omega) hcap (by omega) h9
        · rw [if_neg h9]
          exact pdo_clear cap b X beh ah run a what w h (by omega)

/-- One step of the reference, whatever it is. -/
theorem rdo_any (vb va : Value) (hb : RInts w X vb beh) (ha : RInts w X va ah) (hc0 : 1 ≤ cap) (hc1 : cap ≤ 1024) (hl : beh.length ≤ cap) (hl2 : ah.length ≤ 1000000) (hw : 0 ≤ what) :
    Calls Try.prog 23 #[.agg #[.int .i64 (cap : Int), vb, va, .int .i64 run], .int .i64 what, .int .i64 a] w (DoEnds cap X w (stp cap what a ⟨beh, ah, run, 0, 0⟩)) := by
  unfold stp
  by_cases h4 : what < 4
  · rw [if_pos h4]
    unfold noteL
    by_cases hr : what % 3 = 0 ∨ what % 3 ≠ run
    · rw [if_pos hr]
      exact rdo_note_push cap X vb va beh ah run a what w hb ha hc0 hc1 hl hw h4 hr
    · rw [if_neg hr]
      have hr0 : what % 3 ≠ 0 := fun e => hr (.inl e)
      obtain rfl : what % 3 = run := by
        by_cases e : what % 3 = run
        · exact e
        · exact absurd (.inr e) hr
      exact rdo_note_keep cap X vb va beh ah a what w hb ha hw h4 hr0
  · rw [if_neg h4]
    by_cases h5 : what = 4
    · subst h5
      rw [if_pos rfl]
      exact rdo_brk cap X vb va beh ah run a w hb ha
    · rw [if_neg h5]
      by_cases h7 : what < 7
      · rw [if_pos h7]
        rcases List.eq_nil_or_concat beh with rfl | ⟨m, x, rfl⟩
        · exact rdo_undo_none cap X vb va ah run a what w hb ha (by omega) h7
        · rw [List.concat_eq_append] at hb ⊢
          have e1 : (m ++ [x] = []) = False := by simp
          simp only [e1, if_false, List.dropLast_concat, List.getLastD_concat]
          exact rdo_undo_some cap X vb va m ah run a what w x hb ha (by omega) (by omega) h7
      · rw [if_neg h7]
        by_cases h9 : what < 9
        · rw [if_pos h9]
          rcases List.eq_nil_or_concat ah with rfl | ⟨m, x, rfl⟩
          · exact rdo_redo_none cap X vb va beh run a what w hb ha (by omega) h9
          · rw [List.concat_eq_append] at ha ⊢
            have e1 : (m ++ [x] = []) = False := by simp
            simp only [e1, if_false, List.dropLast_concat, List.getLastD_concat]
            exact rdo_redo_some cap X vb va beh m run a what w x hb ha hc0 hc1 hl (by omega) h9
        · rw [if_neg h9]
          exact rdo_clear cap X vb va beh ah run a what w hb ha (by omega)
end

end Go.Proofs.Ytilblnolfcbdlaa
