/-
  The contract of the reference's Do.
-/
import Derived.Test.YtilblnolfcbdlaaRHistC
namespace Go.Proofs.Ytilblnolfcbdlaa
open Go.RowKit

/-- What one step makes of a history, and what it tells: behind, ahead, run, the thing told, the error. -/
structure HS where
  beh : List Int
  ah : List Int
  run : Int
  x : Int
  e : Int
def stp (cap : Nat) (what a : Int) (s : HS) : HS :=
  if what < 4 then ⟨noteL cap s.beh s.run a (what % 3), [], what % 3, 0, 0⟩
  else if what = 4 then ⟨s.beh, s.ah, 0, 0, 0⟩
  else if what < 7 then (if s.beh = [] then ⟨s.beh, s.ah, s.run, 0, 7⟩ else ⟨s.beh.dropLast, s.ah ++ [a], 0, s.beh.getLastD 0, 0⟩)
  else if what < 9 then (if s.ah = [] then ⟨s.beh, s.ah, s.run, 0, 7⟩ else ⟨pushL cap s.beh a, s.ah.dropLast, 0, s.ah.getLastD 0, 0⟩)
  else ⟨[], [], 0, 0, 0⟩

/-- How the reference's Do ends. -/
def DoEnds (cap : Nat) (X : Nat → Prop) (w : World) (s : HS) (e : Ending) (w' : World) : Prop :=
  ∃ vb va, e = .returned (.tuple #[.agg #[.int .i64 (cap : Int), vb, va, .int .i64 s.run], .int .i64 s.x, .int .i64 s.e]) ∧ RInts w' (Nx X w) vb s.beh ∧ RInts w' (Nx X w) va s.ah ∧ Below w.heap.size w w'

theorem RInts.form2 {w : World} {X : Nat → Prop} {v : Value} {l : List Int} (h : RInts w X v l) : ∃ A n c, v = .slice A n c := by
  obtain ⟨A, c, rfl⟩ := h.form_
  exact ⟨_, _, _, rfl⟩
theorem Nx.two {X : Nat → Prop} {w W : World} (h : w.heap.size + 2 ≤ W.heap.size) : ∀ k, Nx (fun k => X k ∧ k < w.heap.size) W k → Nx X w k := by
  intro k hk
  rcases hk with ⟨hk, _⟩ | hk
  · exact .inl hk
  · exact .inr (by omega)

section
variable (cap : Nat) (X : Nat → Prop) (vb va : Value) (beh ah : List Int) (run a what : Int) (w : World)

set_option maxHeartbeats 400000 in
theorem rdo_note_push (hb : RInts w X vb beh) (ha : RInts w X va ah) (hc0 : 1 ≤ cap) (hc1 : cap ≤ 1024) (hl : beh.length ≤ cap) (hw0 : 0 ≤ what) (hw1 : what < 4) (hr : what % 3 = 0 ∨ what % 3 ≠ run) :
    Calls Try.prog 23 #[.agg #[.int .i64 (cap : Int), vb, va, .int .i64 run], .int .i64 what, .int .i64 a] w (DoEnds cap X w ⟨pushL cap beh a, [], what % 3, 0, 0⟩) := by
  obtain ⟨Ab, cb, hvb⟩ := hb.form_
  obtain ⟨Aa, ca, hva⟩ := ha.form_
  obtain ⟨nb, hnb⟩ : ∃ n, List.length beh = n := ⟨_, rfl⟩
  obtain ⟨na, hna⟩ : ∃ n, List.length ah = n := ⟨_, rfl⟩
  rw [hnb] at hvb
  rw [hna] at hva
  subst hvb hva
  have HS := aside (P2.start w (.int .i64 (cap : Int)) (.slice Ab nb cb) (.slice Aa na ca) (.int .i64 run))
  have HB := aside ((hb.old.alloc (.cells #[.int .i64 (cap : Int), .slice Ab nb cb, .slice Aa na ca, .int .i64 run] 47)).alloc (.cells #[.int .i64 0, .slice none 0 0, .slice none 0 0, .int .i64 0] 47))
  have HA := aside ((ha.old.alloc (.cells #[.int .i64 (cap : Int), .slice Ab nb cb, .slice Aa na ca, .int .i64 run] 47)).alloc (.cells #[.int .i64 0, .slice none 0 0, .slice none 0 0, .int .i64 0] 47))
  clear hb ha hnb hna
  go_enter Try.func23, Try.ntmps23
  go_wp2_with fail
  obtain ⟨W, hW⟩ : ∃ W, W = (w.alloc (.cells #[.int .i64 (cap : Int), .slice Ab nb cb, .slice Aa na ca, .int .i64 run] 47)).alloc (.cells #[.int .i64 0, .slice none 0 0, .slice none 0 0, .int .i64 0] 47) := ⟨_, rfl⟩
  rw [← hW]
  rw [← hW] at HS HB HA
  clear hW
  have hsz := HS.out.size
  refine (rnote_push cap (fun k => X k ∧ k < w.heap.size) _ _ beh ah run a (what % 3) W HB.out HA.out hc0 hc1 hl hr).mono ?_
  rintro e w1 ⟨vb1, rfl, r1, b1⟩
  have Y1 := aside (HS.out.next b1)
  have R1 := aside ((r1).more (X' := Nx X w) ((fun k hk _ => Nx.two hsz k hk)))
  have A1 := aside ((RInts.nil_ w1 (fun k => X k ∧ k < w.heap.size)).more (X' := Nx X w) ((fun k hk _ => .inl hk)))
  obtain ⟨A2, n2, c2, rfl⟩ := r1.form2
  clear r1
  have q0 := Y1.out.res.c0
  have q1 := Y1.out.res.c1
  have q2 := Y1.out.res.c2
  have q3 := Y1.out.res.c3
  have qf := Y1.out.res.fz
  clear HS HB HA b1 hsz
  go_wp2_with fail
  refine bodyPost_ret_by (results_cell_three (by rfl) _ _ (w.heap.size + 1) _ _ _ _ _ _ rfl rfl rfl (Blk4.setAll Y1.out.res) Try.underlying47 rfl (by kernel_rfl)) rfl ⟨_, _, rfl, ?_, ?_, ?_⟩
  · exact (((R1.out.set Nx.ne1 _).set Nx.ne1 _).set Nx.ne1 _).set Nx.ne1 _
  · exact (((A1.out.set Nx.ne1 _).set Nx.ne1 _).set Nx.ne1 _).set Nx.ne1 _
  · exact (((Y1.out.below.setCell (by simp) _).setCell (by simp) _).setCell (by simp) _).setCell (by simp) _

set_option maxHeartbeats 400000 in
theorem rdo_note_keep (hb : RInts w X vb beh) (ha : RInts w X va ah) (hw0 : 0 ≤ what) (hw1 : what < 4) (hr : what % 3 ≠ 0) :
    Calls Try.prog 23 #[.agg #[.int .i64 (cap : Int), vb, va, .int .i64 (what % 3)], .int .i64 what, .int .i64 a] w (DoEnds cap X w ⟨beh, [], what % 3, 0, 0⟩) := by
  obtain ⟨Ab, cb, hvb⟩ := hb.form_
  obtain ⟨Aa, ca, hva⟩ := ha.form_
  obtain ⟨nb, hnb⟩ : ∃ n, List.length beh = n := ⟨_, rfl⟩
  obtain ⟨na, hna⟩ : ∃ n, List.length ah = n := ⟨_, rfl⟩
  rw [hnb] at hvb
  rw [hna] at hva
  subst hvb hva
  have HS := aside (P2.start w (.int .i64 (cap : Int)) (.slice Ab nb cb) (.slice Aa na ca) (.int .i64 (what % 3)))
  have HB := aside ((hb.old.alloc (.cells #[.int .i64 (cap : Int), .slice Ab nb cb, .slice Aa na ca, .int .i64 (what % 3)] 47)).alloc (.cells #[.int .i64 0, .slice none 0 0, .slice none 0 0, .int .i64 0] 47))
  have HA := aside ((ha.old.alloc (.cells #[.int .i64 (cap : Int), .slice Ab nb cb, .slice Aa na ca, .int .i64 (what % 3)] 47)).alloc (.cells #[.int .i64 0, .slice none 0 0, .slice none 0 0, .int .i64 0] 47))
  clear hb ha hnb hna
  go_enter Try.func23, Try.ntmps23
  go_wp2_with fail
  obtain ⟨W, hW⟩ : ∃ W, W = (w.alloc (.cells #[.int .i64 (cap : Int), .slice Ab nb cb, .slice Aa na ca, .int .i64 (what % 3)] 47)).alloc (.cells #[.int .i64 0, .slice none 0 0, .slice none 0 0, .int .i64 0] 47) := ⟨_, rfl⟩
  rw [← hW]
  rw [← hW] at HS HB HA
  clear hW
  have hsz := HS.out.size
  refine (rnote_keep cap (fun k => X k ∧ k < w.heap.size) _ _ beh ah a (what % 3) W HB.out HA.out hr).mono ?_
  rintro e w1 ⟨rfl, r1, b1⟩
  have Y1 := aside (HS.out.next b1)
  have R1 := aside ((r1).more (X' := Nx X w) ((fun k hk _ => Nx.two hsz k hk)))
  have A1 := aside ((RInts.nil_ w1 (fun k => X k ∧ k < w.heap.size)).more (X' := Nx X w) ((fun k hk _ => .inl hk)))
  have q0 := Y1.out.res.c0
  have q1 := Y1.out.res.c1
  have q2 := Y1.out.res.c2
  have q3 := Y1.out.res.c3
  have qf := Y1.out.res.fz
  clear HS HB HA b1 hsz
  go_wp2_with fail
  refine bodyPost_ret_by (results_cell_three (by rfl) _ _ (w.heap.size + 1) _ _ _ _ _ _ rfl rfl rfl (Blk4.setAll Y1.out.res) Try.underlying47 rfl (by kernel_rfl)) rfl ⟨_, _, rfl, ?_, ?_, ?_⟩
  · exact (((R1.out.set Nx.ne1 _).set Nx.ne1 _).set Nx.ne1 _).set Nx.ne1 _
  · exact (((A1.out.set Nx.ne1 _).set Nx.ne1 _).set Nx.ne1 _).set Nx.ne1 _
  · exact (((Y1.out.below.setCell (by simp) _).setCell (by simp) _).setCell (by simp) _).setCell (by simp) _

set_option maxHeartbeats 400000 in
theorem rdo_brk (hb : RInts w X vb beh) (ha : RInts w X va ah) :
    Calls Try.prog 23 #[.agg #[.int .i64 (cap : Int), vb, va, .int .i64 run], .int .i64 4, .int .i64 a] w (DoEnds cap X w ⟨beh, ah, 0, 0, 0⟩) := by
  obtain ⟨Ab, cb, hvb⟩ := hb.form_
  obtain ⟨Aa, ca, hva⟩ := ha.form_
  obtain ⟨nb, hnb⟩ : ∃ n, List.length beh = n := ⟨_, rfl⟩
  obtain ⟨na, hna⟩ : ∃ n, List.length ah = n := ⟨_, rfl⟩
  rw [hnb] at hvb
  rw [hna] at hva
  subst hvb hva
  have HS := aside (P2.start w (.int .i64 (cap : Int)) (.slice Ab nb cb) (.slice Aa na ca) (.int .i64 run))
  have HB := aside ((hb.old.alloc (.cells #[.int .i64 (cap : Int), .slice Ab nb cb, .slice Aa na ca, .int .i64 run] 47)).alloc (.cells #[.int .i64 0, .slice none 0 0, .slice none 0 0, .int .i64 0] 47))
  have HA := aside ((ha.old.alloc (.cells #[.int .i64 (cap : Int), .slice Ab nb cb, .slice Aa na ca, .int .i64 run] 47)).alloc (.cells #[.int .i64 0, .slice none 0 0, .slice none 0 0, .int .i64 0] 47))
  have hb2 := hb.old.more (X' := Nx X w) (fun k hk _ => .inl hk)
  have ha2 := ha.old.more (X' := Nx X w) (fun k hk _ => .inl hk)
  clear hb ha hnb hna HS HB HA
  go_enter Try.func23, Try.ntmps23
  go_wp2_with fail
  refine bodyPost_ret_by (results_cell_three (by rfl) _ _ (w.heap.size + 1) _ _ _ _ _ _ rfl rfl rfl (heap_alloc2_new w _ _) Try.underlying47 rfl (by kernel_rfl)) rfl ⟨_, _, rfl, ?_, ?_, ?_⟩
  · exact ((hb2.alloc _).alloc _)
  · exact ((ha2.alloc _).alloc _)
  · exact ((Below.refl _ _).alloc (Nat.le_refl _) _).alloc (by simp) _

set_option maxHeartbeats 400000 in
theorem rdo_undo_none (hb : RInts w X vb ([] : List Int)) (ha : RInts w X va ah) (hw0 : 4 < what) (hw1 : what < 7) :
    Calls Try.prog 23 #[.agg #[.int .i64 (cap : Int), vb, va, .int .i64 run], .int .i64 what, .int .i64 a] w (DoEnds cap X w ⟨[], ah, run, 0, 7⟩) := by
  obtain ⟨Ab, cb, hvb⟩ := hb.form_
  obtain ⟨Aa, ca, hva⟩ := ha.form_
  obtain ⟨nb, hnb⟩ : ∃ n, List.length ([] : List Int) = n := ⟨_, rfl⟩
  obtain ⟨na, hna⟩ : ∃ n, List.length ah = n := ⟨_, rfl⟩
  rw [hnb] at hvb
  rw [hna] at hva
  obtain rfl : nb = 0 := by simpa using hnb.symm
  subst hvb hva
  have HS := aside (P2.start w (.int .i64 (cap : Int)) (.slice Ab 0 cb) (.slice Aa na ca) (.int .i64 run))
  have HB := aside ((hb.old.alloc (.cells #[.int .i64 (cap : Int), .slice Ab 0 cb, .slice Aa na ca, .int .i64 run] 47)).alloc (.cells #[.int .i64 0, .slice none 0 0, .slice none 0 0, .int .i64 0] 47))
  have HA := aside ((ha.old.alloc (.cells #[.int .i64 (cap : Int), .slice Ab 0 cb, .slice Aa na ca, .int .i64 run] 47)).alloc (.cells #[.int .i64 0, .slice none 0 0, .slice none 0 0, .int .i64 0] 47))
  clear hb ha hnb hna
  go_enter Try.func23, Try.ntmps23
  go_wp2_with fail
  obtain ⟨W, hW⟩ : ∃ W, W = (w.alloc (.cells #[.int .i64 (cap : Int), .slice Ab 0 cb, .slice Aa na ca, .int .i64 run] 47)).alloc (.cells #[.int .i64 0, .slice none 0 0, .slice none 0 0, .int .i64 0] 47) := ⟨_, rfl⟩
  rw [← hW]
  rw [← hW] at HS HB HA
  clear hW
  have hsz := HS.out.size
  refine (rundo_none cap (fun k => X k ∧ k < w.heap.size) _ cb Ab ah a run W HA.out).mono ?_
  rintro e w1 ⟨rfl, r2, b1⟩
  have Y1 := aside (HS.out.next b1)
  have R1 := aside ((HB.out.below b1).more (X' := Nx X w) ((fun k hk _ => .inl hk)))
  have A1 := aside ((r2).more (X' := Nx X w) ((fun k hk _ => Nx.two hsz k hk)))
  have q0 := Y1.out.res.c0
  have q1 := Y1.out.res.c1
  have q2 := Y1.out.res.c2
  have q3 := Y1.out.res.c3
  have qf := Y1.out.res.fz
  clear HS HB HA b1 hsz
  go_wp2_with fail
  refine bodyPost_ret_by (results_cell_three (by rfl) _ _ (w.heap.size + 1) _ _ _ _ _ _ rfl rfl rfl (Blk4.setAll Y1.out.res) Try.underlying47 rfl (by kernel_rfl)) rfl ⟨_, _, rfl, ?_, ?_, ?_⟩
  · exact (((R1.out.set Nx.ne1 _).set Nx.ne1 _).set Nx.ne1 _).set Nx.ne1 _
  · exact (((A1.out.set Nx.ne1 _).set Nx.ne1 _).set Nx.ne1 _).set Nx.ne1 _
  · exact (((Y1.out.below.setCell (by simp) _).setCell (by simp) _).setCell (by simp) _).setCell (by simp) _

set_option maxHeartbeats 400000 in
theorem rdo_undo_some (x : Int) (hb : RInts w X vb (beh ++ [x])) (ha : RInts w X va ah) (hl : ah.length ≤ 1099511627776) (hw0 : 4 < what) (hw1 : what < 7) :
    Calls Try.prog 23 #[.agg #[.int .i64 (cap : Int), vb, va, .int .i64 run], .int .i64 what, .int .i64 a] w (DoEnds cap X w ⟨beh, ah ++ [a], 0, x, 0⟩) := by
  obtain ⟨Ab, cb, hvb⟩ := hb.form_
  obtain ⟨Aa, ca, hva⟩ := ha.form_
  obtain ⟨nb, hnb⟩ : ∃ n, List.length (beh ++ [x]) = n := ⟨_, rfl⟩
  obtain ⟨na, hna⟩ : ∃ n, List.length ah = n := ⟨_, rfl⟩
  rw [hnb] at hvb
  rw [hna] at hva
  subst hvb hva
  have HS := aside (P2.start w (.int .i64 (cap : Int)) (.slice Ab nb cb) (.slice Aa na ca) (.int .i64 run))
  have HB := aside ((hb.old.alloc (.cells #[.int .i64 (cap : Int), .slice Ab nb cb, .slice Aa na ca, .int .i64 run] 47)).alloc (.cells #[.int .i64 0, .slice none 0 0, .slice none 0 0, .int .i64 0] 47))
  have HA := aside ((ha.old.alloc (.cells #[.int .i64 (cap : Int), .slice Ab nb cb, .slice Aa na ca, .int .i64 run] 47)).alloc (.cells #[.int .i64 0, .slice none 0 0, .slice none 0 0, .int .i64 0] 47))
  clear hb ha hnb hna
  go_enter Try.func23, Try.ntmps23
  go_wp2_with fail
  obtain ⟨W, hW⟩ : ∃ W, W = (w.alloc (.cells #[.int .i64 (cap : Int), .slice Ab nb cb, .slice Aa na ca, .int .i64 run] 47)).alloc (.cells #[.int .i64 0, .slice none 0 0, .slice none 0 0, .int .i64 0] 47) := ⟨_, rfl⟩
  rw [← hW]
  rw [← hW] at HS HB HA
  clear hW
  have hsz := HS.out.size
  refine (rundo_some cap (fun k => X k ∧ k < w.heap.size) _ _ beh ah x a run W HB.out HA.out hl).mono ?_
  rintro e w1 ⟨vb1, va1, rfl, r1, r2, b1⟩
  have Y1 := aside (HS.out.next b1)
  have R1 := aside ((r1).more (X' := Nx X w) ((fun k hk _ => Nx.two hsz k hk)))
  have A1 := aside ((r2).more (X' := Nx X w) ((fun k hk _ => Nx.two hsz k hk)))
  obtain ⟨A2, n2, c2, rfl⟩ := r1.form2
  clear r1
  obtain ⟨A3, n3, c3, rfl⟩ := r2.form2
  clear r2
  have q0 := Y1.out.res.c0
  have q1 := Y1.out.res.c1
  have q2 := Y1.out.res.c2
  have q3 := Y1.out.res.c3
  have qf := Y1.out.res.fz
  clear HS HB HA b1 hsz
  go_wp2_with fail
  refine bodyPost_ret_by (results_cell_three (by rfl) _ _ (w.heap.size + 1) _ _ _ _ _ _ rfl rfl rfl (Blk4.setAll Y1.out.res) Try.underlying47 rfl (by kernel_rfl)) rfl ⟨_, _, rfl, ?_, ?_, ?_⟩
  · exact (((R1.out.set Nx.ne1 _).set Nx.ne1 _).set Nx.ne1 _).set Nx.ne1 _
  · exact (((A1.out.set Nx.ne1 _).set Nx.ne1 _).set Nx.ne1 _).set Nx.ne1 _
  · exact (((Y1.out.below.setCell (by simp) _).setCell (by simp) _).setCell (by simp) _).setCell (by simp) _

set_option maxHeartbeats 400000 in
theorem rdo_redo_none (hb : RInts w X vb beh) (ha : RInts w X va ([] : List Int)) (hw0 : 7 ≤ what) (hw1 : what < 9) :
    Calls Try.prog 23 #[.agg #[.int .i64 (cap : Int), vb, va, .int .i64 run], .int .i64 what, .int .i64 a] w (DoEnds cap X w ⟨beh, [], run, 0, 7⟩) := by
  obtain ⟨Ab, cb, hvb⟩ := hb.form_
  obtain ⟨Aa, ca, hva⟩ := ha.form_
  obtain ⟨nb, hnb⟩ : ∃ n, List.length beh = n := ⟨_, rfl⟩
  obtain ⟨na, hna⟩ : ∃ n, List.length ([] : List Int) = n := ⟨_, rfl⟩
  rw [hnb] at hvb
  rw [hna] at hva
  obtain rfl : na = 0 := by simpa using hna.symm
  subst hvb hva
  have HS := aside (P2.start w (.int .i64 (cap : Int)) (.slice Ab nb cb) (.slice Aa 0 ca) (.int .i64 run))
  have HB := aside ((hb.old.alloc (.cells #[.int .i64 (cap : Int), .slice Ab nb cb, .slice Aa 0 ca, .int .i64 run] 47)).alloc (.cells #[.int .i64 0, .slice none 0 0, .slice none 0 0, .int .i64 0] 47))
  have HA := aside ((ha.old.alloc (.cells #[.int .i64 (cap : Int), .slice Ab nb cb, .slice Aa 0 ca, .int .i64 run] 47)).alloc (.cells #[.int .i64 0, .slice none 0 0, .slice none 0 0, .int .i64 0] 47))
  clear hb ha hnb hna
  go_enter Try.func23, Try.ntmps23
  go_wp2_with fail
  obtain ⟨W, hW⟩ : ∃ W, W = (w.alloc (.cells #[.int .i64 (cap : Int), .slice Ab nb cb, .slice Aa 0 ca, .int .i64 run] 47)).alloc (.cells #[.int .i64 0, .slice none 0 0, .slice none 0 0, .int .i64 0] 47) := ⟨_, rfl⟩
  rw [← hW]
  rw [← hW] at HS HB HA
  clear hW
  have hsz := HS.out.size
  refine (rredo_none cap (fun k => X k ∧ k < w.heap.size) _ ca Aa beh a run W HB.out).mono ?_
  rintro e w1 ⟨rfl, r1, b1⟩
  have Y1 := aside (HS.out.next b1)
  have R1 := aside ((r1).more (X' := Nx X w) ((fun k hk _ => Nx.two hsz k hk)))
  have A1 := aside ((HA.out.below b1).more (X' := Nx X w) ((fun k hk _ => .inl hk)))
  have q0 := Y1.out.res.c0
  have q1 := Y1.out.res.c1
  have q2 := Y1.out.res.c2
  have q3 := Y1.out.res.c3
  have qf := Y1.out.res.fz
  clear HS HB HA b1 hsz
  go_wp2_with fail
  refine bodyPost_ret_by (results_cell_three (by rfl) _ _ (w.heap.size + 1) _ _ _ _ _ _ rfl rfl rfl (Blk4.setAll Y1.out.res) Try.underlying47 rfl (by kernel_rfl)) rfl ⟨_, _, rfl, ?_, ?_, ?_⟩
  · exact (((R1.out.set Nx.ne1 _).set Nx.ne1 _).set Nx.ne1 _).set Nx.ne1 _
  · exact (((A1.out.set Nx.ne1 _).set Nx.ne1 _).set Nx.ne1 _).set Nx.ne1 _
  · exact (((Y1.out.below.setCell (by simp) _).setCell (by simp) _).setCell (by simp) _).setCell (by simp) _

set_option maxHeartbeats 400000 in
theorem rdo_redo_some (x : Int) (hb : RInts w X vb beh) (ha : RInts w X va (ah ++ [x])) (hc0 : 1 ≤ cap) (hc1 : cap ≤ 1024) (hl : beh.length ≤ cap) (hw0 : 7 ≤ what) (hw1 : what < 9) :
    Calls Try.prog 23 #[.agg #[.int .i64 (cap : Int), vb, va, .int .i64 run], .int .i64 what, .int .i64 a] w (DoEnds cap X w ⟨pushL cap beh a, ah, 0, x, 0⟩) := by
  obtain ⟨Ab, cb, hvb⟩ := hb.form_
  obtain ⟨Aa, ca, hva⟩ := ha.form_
  obtain ⟨nb, hnb⟩ : ∃ n, List.length beh = n := ⟨_, rfl⟩
  obtain ⟨na, hna⟩ : ∃ n, List.length (ah ++ [x]) = n := ⟨_, rfl⟩
  rw [hnb] at hvb
  rw [hna] at hva
  subst hvb hva
  have HS := aside (P2.start w (.int .i64 (cap : Int)) (.slice Ab nb cb) (.slice Aa na ca) (.int .i64 run))
  have HB := aside ((hb.old.alloc (.cells #[.int .i64 (cap : Int), .slice Ab nb cb, .slice Aa na ca, .int .i64 run] 47)).alloc (.cells #[.int .i64 0, .slice none 0 0, .slice none 0 0, .int .i64 0] 47))
  have HA := aside ((ha.old.alloc (.cells #[.int .i64 (cap : Int), .slice Ab nb cb, .slice Aa na ca, .int .i64 run] 47)).alloc (.cells #[.int .i64 0, .slice none 0 0, .slice none 0 0, .int .i64 0] 47))
  clear hb ha hnb hna
  go_enter Try.func23, Try.ntmps23
  go_wp2_with fail
  obtain ⟨W, hW⟩ : ∃ W, W = (w.alloc (.cells #[.int .i64 (cap : Int), .slice Ab nb cb, .slice Aa na ca, .int .i64 run] 47)).alloc (.cells #[.int .i64 0, .slice none 0 0, .slice none 0 0, .int .i64 0] 47) := ⟨_, rfl⟩
  rw [← hW]
  rw [← hW] at HS HB HA
  clear hW
  have hsz := HS.out.size
  refine (rredo_some cap (fun k => X k ∧ k < w.heap.size) _ _ beh ah x a run W HB.out HA.out hc0 hc1 hl).mono ?_
  rintro e w1 ⟨vb1, va1, rfl, r1, r2, b1⟩
  have Y1 := aside (HS.out.next b1)
  have R1 := aside ((r1).more (X' := Nx X w) ((fun k hk _ => Nx.two hsz k hk)))
  have A1 := aside ((r2).more (X' := Nx X w) ((fun k hk _ => Nx.two hsz k hk)))
  obtain ⟨A2, n2, c2, rfl⟩ := r1.form2
  clear r1
  obtain ⟨A3, n3, c3, rfl⟩ := r2.form2
  clear r2
  have q0 := Y1.out.res.c0
  have q1 := Y1.out.res.c1
  have q2 := Y1.out.res.c2
  have q3 := Y1.out.res.c3
  have qf := Y1.out.res.fz
  clear HS HB HA b1 hsz
  go_wp2_with fail
  refine bodyPost_ret_by (results_cell_three (by rfl) _ _ (w.heap.size + 1) _ _ _ _ _ _ rfl rfl rfl (Blk4.setAll Y1.out.res) Try.underlying47 rfl (by kernel_rfl)) rfl ⟨_, _, rfl, ?_, ?_, ?_⟩
  · exact (((R1.out.set Nx.ne1 _).set Nx.ne1 _).set Nx.ne1 _).set Nx.ne1 _
  · exact (((A1.out.set Nx.ne1 _).set Nx.ne1 _).set Nx.ne1 _).set Nx.ne1 _
  · exact (((Y1.out.below.setCell (by simp) _).setCell (by simp) _).setCell (by simp) _).setCell (by simp) _

set_option maxHeartbeats 400000 in
theorem rdo_clear (hb : RInts w X vb beh) (ha : RInts w X va ah) (hw0 : 9 ≤ what) :
    Calls Try.prog 23 #[.agg #[.int .i64 (cap : Int), vb, va, .int .i64 run], .int .i64 what, .int .i64 a] w (DoEnds cap X w ⟨[], [], 0, 0, 0⟩) := by
  obtain ⟨Ab, cb, hvb⟩ := hb.form_
  obtain ⟨Aa, ca, hva⟩ := ha.form_
  obtain ⟨nb, hnb⟩ : ∃ n, List.length beh = n := ⟨_, rfl⟩
  obtain ⟨na, hna⟩ : ∃ n, List.length ah = n := ⟨_, rfl⟩
  rw [hnb] at hvb
  rw [hna] at hva
  subst hvb hva
  have HS := aside (P2.start w (.int .i64 (cap : Int)) (.slice Ab nb cb) (.slice Aa na ca) (.int .i64 run))
  have HB := aside ((hb.old.alloc (.cells #[.int .i64 (cap : Int), .slice Ab nb cb, .slice Aa na ca, .int .i64 run] 47)).alloc (.cells #[.int .i64 0, .slice none 0 0, .slice none 0 0, .int .i64 0] 47))
  have HA := aside ((ha.old.alloc (.cells #[.int .i64 (cap : Int), .slice Ab nb cb, .slice Aa na ca, .int .i64 run] 47)).alloc (.cells #[.int .i64 0, .slice none 0 0, .slice none 0 0, .int .i64 0] 47))
  clear hb ha hnb hna HS HB HA
  go_enter Try.func23, Try.ntmps23
  go_wp2_with fail
  refine bodyPost_ret_by (results_cell_three (by rfl) _ _ (w.heap.size + 1) _ _ _ _ _ _ rfl rfl rfl (heap_alloc2_new w _ _) Try.underlying47 rfl (by kernel_rfl)) rfl ⟨_, _, rfl, ?_, ?_, ?_⟩
  · exact RInts.nil_ _ _
  · exact RInts.nil_ _ _
  · exact ((Below.refl _ _).alloc (Nat.le_refl _) _).alloc (by simp) _

end

end Go.Proofs.Ytilblnolfcbdlaa
