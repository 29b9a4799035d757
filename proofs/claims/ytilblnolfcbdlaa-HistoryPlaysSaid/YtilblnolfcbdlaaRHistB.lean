/-
  Contracts of the reference's Note, Undo, Redo.
-/
import Derived.Test.YtilblnolfcbdlaaRHist
import Derived.Deep.DeepCutAuto
namespace Go.Proofs.Ytilblnolfcbdlaa
open Go.RowKit

theorem results_cell_three {P : Program} {fn : Func} {p a b : Tmp} {ty : TypeId} (h : fn.results = #[.cell p ty, .tmp a, .tmp b]) (tmps : Array Value) (w : World) (g : Nat) (t : TypeId) (cs : Array Value) (fr : Nat × Nat) (d : TypeDesc) (x y : Value)
    (hp : tmps.getD p undef = .pointer (some ⟨g, 0, none⟩)) (hx : tmps.getD a undef = x) (hy : tmps.getD b undef = y) (hg : w.heap[g]? = some (.cells cs t fr))
    (hu : P.underlying ty = some d) (hd : (match d with | .struct _ | .array _ _ => true | _ => false) = true) (hi : (P.info? ty).map (·.size) = some cs.size) :
    (results fn tmps).run P w = .ok (.tuple #[.agg cs, x, y]) w := by
  have hp' : tmps[p]?.getD undef = .pointer (some ⟨g, 0, none⟩) := by simpa using hp
  have hx' : tmps[a]?.getD undef = x := by simpa using hx
  have hy' : tmps[b]?.getD undef = y := by simpa using hy
  simp [results, h, hp', hx', hy', asAddr, run_loadVar_row w g t ty cs fr d hg hu hd hi]

section
variable {w w' : World} {X X' : Nat → Prop} {v : Value} {l : List Int} {x : Int}
theorem RInts.set (h : RInts w X v l) {p : Addr} (hp : ∀ k, X k → k ≠ p.block) (u : Value) : RInts (w.setCell p u) X v l :=
  h.keep fun b hx _ => ⟨hx, Below.heap_setCell w p u b (hp b hx)⟩
theorem RInts.more (h : RInts w X v l) (hX : ∀ b, X b → b < w.heap.size → X' b) : RInts w X' v l := h.keep fun b hx hlt => ⟨hX b hx hlt, rfl⟩
theorem RInts.alloc (h : RInts w X v l) (o : Obj) : RInts (w.alloc o) X v l := h.keep fun b hx hlt => ⟨hx, Below.heap_alloc w o b hlt⟩
theorem RInts.form_ (h : RInts w X v l) : ∃ A c, v = .slice A l.length c := by
  rcases h with ⟨rfl, rfl⟩ | ⟨b, off, c, rfl, _⟩
  · exact ⟨none, 0, rfl⟩
  · exact ⟨_, _, rfl⟩
/-- Only what lies below counts. -/
theorem RInts.old (h : RInts w X v l) : RInts w (fun b => X b ∧ b < w.heap.size) v l := h.keep fun _ hx hlt => ⟨⟨hx, hlt⟩, rfl⟩
/-- One more at the end is the last. -/
theorem RInts.init (h : RInts w X v (l ++ [x])) : ∃ b off c, v = .slice (some ⟨b, off, none⟩) (l.length + 1) c ∧ l.length + 1 ≤ c ∧ c ≤ 9223372036854775807 ∧ X b ∧ w.cell? ⟨b, off + l.length, none⟩ = some (.int .i64 x) ∧ RInts w X (.slice (some ⟨b, off, none⟩) l.length c) l := by
  rcases h with ⟨_, h⟩ | ⟨b, off, c, rfl, h1, h2, hc⟩
  · simp at h
  · rw [List.length_append] at h1 hc ⊢
    simp only [List.length_singleton] at h1 hc ⊢
    have hl := hc l.length (by omega)
    refine ⟨b, off, c, rfl, h1, h2, hl.1, by simpa [List.getD_eq_getElem?_getD] using hl.2, .inr ⟨b, off, c, rfl, by omega, h2, fun j hj => ?_⟩⟩
    have := hc j (by omega)
    refine ⟨this.1, ?_⟩
    rw [this.2]
    simp [List.getD_eq_getElem?_getD, List.getElem?_append_left hj]
end

/-- The two blocks that a call makes first: its argument's copy, and its result. -/
def twoW (w : World) (a b c d : Value) : World := (w.alloc (.cells #[a, b, c, d] 47)).alloc (.cells #[.int .i64 0, .slice none 0 0, .slice none 0 0, .int .i64 0] 47)
theorem two_box (w : World) (a b c d : Value) : Blk4 (twoW w a b c d) w.heap.size a b c d := heap_alloc2_old w _ _
theorem two_res (w : World) (a b c d : Value) : Blk4 (twoW w a b c d) (w.heap.size + 1) (.int .i64 0) (.slice none 0 0) (.slice none 0 0) (.int .i64 0) := heap_alloc2_new w _ _
theorem two_below (w : World) (a b c d : Value) : Below w.heap.size w (twoW w a b c d) := ((Below.refl _ _).alloc (Nat.le_refl _) _).alloc (by simp) _
theorem two_size (w : World) (a b c d : Value) : (twoW w a b c d).heap.size = w.heap.size + 2 := by simp [twoW]
theorem two_ints {w : World} {X : Nat → Prop} {v : Value} {l : List Int} (h : RInts w X v l) (a b c d : Value) : RInts (twoW w a b c d) (fun k => X k ∧ k < w.heap.size) v l := (h.old.alloc _).alloc _

/-- Blocks of X, or new ones. -/
def Nx (X : Nat → Prop) (w : World) : Nat → Prop := fun k => (X k ∧ k < w.heap.size) ∨ w.heap.size + 2 ≤ k

/-- What a method of the reference stands on behind its two blocks. -/
structure P2 (w W : World) (a b c d : Value) : Prop where
  box : Blk4 W w.heap.size a b c d
  res : Blk4 W (w.heap.size + 1) (.int .i64 0) (.slice none 0 0) (.slice none 0 0) (.int .i64 0)
  below : Below w.heap.size w W
  size : w.heap.size + 2 ≤ W.heap.size
theorem P2.start (w : World) (a b c d : Value) : P2 w ((w.alloc (.cells #[a, b, c, d] 47)).alloc (.cells #[.int .i64 0, .slice none 0 0, .slice none 0 0, .int .i64 0] 47)) a b c d :=
  ⟨two_box w a b c d, two_res w a b c d, two_below w a b c d, by simp⟩
theorem P2.next {w W W' : World} {a b c d : Value} (h : P2 w W a b c d) (hb : Below W.heap.size W W') : P2 w W' a b c d :=
  ⟨h.box.keep (hb.block _ h.box.lt), h.res.keep (hb.block _ h.res.lt), h.below.trans (hb.mono (by have := h.size; omega)), Nat.le_trans h.size hb.size⟩

theorem P2.setBox {w W : World} {a b c d a' b' c' d' : Value} (h : P2 w W a b c d) : P2 w ((((W.setCell ⟨w.heap.size, 0, none⟩ a').setCell ⟨w.heap.size, 1, none⟩ b').setCell ⟨w.heap.size, 2, none⟩ c').setCell ⟨w.heap.size, 3, none⟩ d') a' b' c' d' :=
  ⟨(((h.box.set0 _).set1 _).set2 _).set3 _, (((h.res.far (by simp) _).far (by simp) _).far (by simp) _).far (by simp) _, (((h.below.setCell (by simp) _).setCell (by simp) _).setCell (by simp) _).setCell (by simp) _, by simpa using h.size⟩
theorem Blk4.setAll {W : World} {g : Nat} {a b c d a' b' c' d' : Value} (h : Blk4 W g a b c d) : Blk4 ((((W.setCell ⟨g, 0, none⟩ a').setCell ⟨g, 1, none⟩ b').setCell ⟨g, 2, none⟩ c').setCell ⟨g, 3, none⟩ d') g a' b' c' d' :=
  (((h.set0 _).set1 _).set2 _).set3 _
/-- The world by a name. -/
theorem wp_name {P : Program} {c : Code} {Q : Exit → Act → World → Prop} {a : Act} {w : World} (h : ∀ W, W = w → Code.wp P c Q a W) : Code.wp P c Q a w := h w rfl

/-- The tail: what is stored into the box and the result keeps what lies elsewhere. -/
theorem Nx.ne0 {X : Nat → Prop} {w : World} : ∀ k, Nx X w k → k ≠ w.heap.size := by
  intro k hk; rcases hk with hk | hk <;> omega
theorem Nx.ne1 {X : Nat → Prop} {w : World} : ∀ k, Nx X w k → k ≠ w.heap.size + 1 := by
  intro k hk; rcases hk with hk | hk <;> omega

set_option maxHeartbeats 400000 in
theorem rnote_push (cap : Nat) (X : Nat → Prop) (vb va : Value) (beh ah : List Int) (run was r : Int) (w : World) (hb : RInts w X vb beh) (ha : RInts w X va ah) (hc0 : 1 ≤ cap) (hc1 : cap ≤ 1024) (hl : beh.length ≤ cap) (hr : r = 0 ∨ r ≠ run) :
    Calls Try.prog 34 #[.agg #[.int .i64 (cap : Int), vb, va, .int .i64 run], .int .i64 was, .int .i64 r] w fun e w' => ∃ vb', e = .returned (.agg #[.int .i64 (cap : Int), vb', .slice none 0 0, .int .i64 r]) ∧ RInts w' (Nx X w) vb' (pushL cap beh was) ∧ Below w.heap.size w w' := by
  obtain ⟨Ab, cb, rfl⟩ := hb.form_
  obtain ⟨Aa, ca, rfl⟩ := ha.form_
  have HP := Lib.hid (P2.start w (.int .i64 (cap : Int)) (.slice Ab beh.length cb) (.slice Aa ah.length ca) (.int .i64 run))
  have HB := Lib.hid (two_ints hb (.int .i64 (cap : Int)) (.slice Ab beh.length cb) (.slice Aa ah.length ca) (.int .i64 run))
  have RP := Lib.hid (fun (W : World) (h : RInts W (fun k => X k ∧ k < w.heap.size) (.slice Ab beh.length cb) beh) => rpush_any cap (fun k => X k ∧ k < w.heap.size) (.slice Ab beh.length cb) Aa ah.length ca beh run was W h hc0 hc1 hl)
  have hcase : r = 0 ∨ ((r == 0) = false ∧ (r != run) = true) := by
    rcases hr with h | h
    · exact .inl h
    · by_cases h0 : r = 0
      · exact .inl h0
      · exact .inr ⟨by simp [h0], by simp [h]⟩
  clear hb ha hr hl
  rcases hcase with rfl | ⟨h0, h1⟩
  all_goals
    go_enter Try.func34, Try.ntmps34
    go_wp2_with fail
    obtain ⟨W, hW⟩ : ∃ W, W = (w.alloc (.cells #[.int .i64 (cap : Int), .slice Ab beh.length cb, .slice Aa ah.length ca, .int .i64 run] 47)).alloc (.cells #[.int .i64 0, .slice none 0 0, .slice none 0 0, .int .i64 0] 47) := ⟨_, rfl⟩
    rw [← hW]
    unfold twoW at HB
    rw [← hW] at HB HP
    clear hW
    refine (RP.out W HB.out).mono ?_
    rintro e w1 ⟨vb', rfl, r1, b1⟩
    obtain ⟨A1, c1, hv1⟩ := r1.form_
    obtain ⟨n1, hn1⟩ : ∃ n1, (pushL cap beh was).length = n1 := ⟨_, rfl⟩
    rw [hn1] at hv1
    clear hn1
    subst hv1
    have Y1 := aside (HP.out.next b1)
    have R1 : Aside (RInts w1 (Nx X w) _ (pushL cap beh was)) := r1.more (X' := Nx X w) (fun k hk _ => .inr (Nat.le_trans HP.out.size hk))
    have e0 := Y1.out.box.c0
    have e1 := Y1.out.box.c1
    have e2 := Y1.out.box.c2
    have e3 := Y1.out.box.c3
    have ef := Y1.out.box.fz
    clear r1 b1 HP HB RP
    go_upto_region 3 with (fail)
    refine wp_name ?_
    intro W2 hW2
    have Y2 : Aside (P2 w W2 (.int .i64 (cap : Int)) (.slice A1 n1 c1) (.slice Aa ah.length ca) (.int .i64 run)) := by rw [hW2]; exact Y1.out.setBox
    have R2 : Aside (RInts W2 (Nx X w) (.slice A1 n1 c1) (pushL cap beh was)) := by rw [hW2]; exact (((R1.out.set Nx.ne0 _).set Nx.ne0 _).set Nx.ne0 _).set Nx.ne0 _
    clear hW2 e0 e1 e2 e3 ef
    have e0 := Y2.out.box.c0
    have e1 := Y2.out.box.c1
    have e2 := Y2.out.box.c2
    have e3 := Y2.out.box.c3
    have ef := Y2.out.box.fz
    have q0 := Y2.out.res.c0
    have q1 := Y2.out.res.c1
    have q2 := Y2.out.res.c2
    have q3 := Y2.out.res.c3
    have qf := Y2.out.res.fz
    go_wp2_with fail
    refine bodyPost_ret_by (results_cell_row (by rfl) _ _ (w.heap.size + 1) _ _ _ _ rfl (?_ : Blk4 _ (w.heap.size + 1) (.int .i64 (cap : Int)) (.slice A1 n1 c1) (.slice none 0 0) (.int .i64 _)) Try.underlying47 rfl (by kernel_rfl)) rfl ⟨_, rfl, ?_, ?_⟩
    · exact Blk4.setAll ((Y2.out.res.far (by simp) _).far (by simp) _)
    · repeat (first | (refine RInts.set ?_ Nx.ne1 _) | (refine RInts.set ?_ Nx.ne0 _))
      exact R2.out
    · repeat (refine Below.setCell ?_ (by simp) _)
      exact Y2.out.below

end Go.Proofs.Ytilblnolfcbdlaa
