/-
  The reader of characters: its five variables in memory; one step; breaks and hangul.
-/
import Derived.Test.YtaocnnebfnlgiaaDoorReadP
import Derived.Test.YtaocnnebfnlgiaaDoorClass2
import Derived.Test.YtaocnnebfnlgiaaDoorOwn
import Derived.OneCell
import Derived.Deep.DeepCutAuto
import Derived.Deep.CutBlock
namespace Go.Proofs.YtaocnnebfnlgiaaDoor
open Go.RowKit

set_option maxHeartbeats 400000 in
theorem breaks_any (k : Int) (w : World) : Calls Tryd.prog 44 #[.int .i64 k] w fun e w' => e = .returned (.bool (brkB k)) ∧ w = w' := by
  by_cases h : k = 1 ∨ k = 2 ∨ k = 3
  · rcases h with rfl | rfl | rfl
    all_goals
      go_enter Tryd.func44, Tryd.ntmps44
      go_wp2
      go_ret
      exact ⟨rfl, rfl⟩
  · have HR : Hid (brkB k = false) := by show _ = _; simp only [brkB]; exact decide_eq_false h
    have n1 : (k == 1) = false := beq_eq_false_iff_ne.2 (fun e => h (.inl e))
    have n2 : (k == 2) = false := beq_eq_false_iff_ne.2 (fun e => h (.inr (.inl e)))
    have n3 : (k == 3) = false := beq_eq_false_iff_ne.2 (fun e => h (.inr (.inr e)))
    clear h
    go_enter Tryd.func44, Tryd.ntmps44
    go_wp2
    go_ret
    exact ⟨ret_bool (by rw [HR.out]), rfl⟩

theorem hgl_other (a b : Int) (h9 : ¬ a = 9) (h12 : ¬ a = 12) (h10 : ¬ a = 10) (h13 : ¬ a = 13) (h11 : ¬ a = 11) : hglB a b = false := by
  simp [hglB, h9, h12, h10, h13, h11]

set_option maxHeartbeats 1000000 in
theorem hangul_any (a b : Int) (w : World) : Calls Tryd.prog 45 #[.int .i64 a, .int .i64 b] w fun e w' => e = .returned (.bool (hglB a b)) ∧ w = w' := by
  by_cases h : a = 9 ∨ a = 12 ∨ a = 10 ∨ a = 13 ∨ a = 11
  · by_cases hb : b = 9 ∨ b = 10 ∨ b = 11 ∨ b = 12 ∨ b = 13
    · rcases hb with rfl | rfl | rfl | rfl | rfl
      all_goals
        rcases h with rfl | rfl | rfl | rfl | rfl
        all_goals
          go_enter Tryd.func45, Tryd.ntmps45
          go_wp2
          go_ret
          exact ⟨rfl, rfl⟩
    · have n9 : (b == 9) = false := beq_eq_false_iff_ne.2 (fun e => hb (.inl e))
      have n10 : (b == 10) = false := beq_eq_false_iff_ne.2 (fun e => hb (.inr (.inl e)))
      have n11 : (b == 11) = false := beq_eq_false_iff_ne.2 (fun e => hb (.inr (.inr (.inl e))))
      have n12 : (b == 12) = false := beq_eq_false_iff_ne.2 (fun e => hb (.inr (.inr (.inr (.inl e)))))
      have n13 : (b == 13) = false := beq_eq_false_iff_ne.2 (fun e => hb (.inr (.inr (.inr (.inr e)))))
      have HR : Hid (hglB a b = false) := by
        show _ = _
        have e9 : ¬ b = 9 := fun e => hb (.inl e)
        have e10 : ¬ b = 10 := fun e => hb (.inr (.inl e))
        have e11 : ¬ b = 11 := fun e => hb (.inr (.inr (.inl e)))
        have e12 : ¬ b = 12 := fun e => hb (.inr (.inr (.inr (.inl e))))
        have e13 : ¬ b = 13 := fun e => hb (.inr (.inr (.inr (.inr e))))
        simp [hglB, e9, e10, e11, e12, e13]
      clear hb
      rcases h with rfl | rfl | rfl | rfl | rfl
      all_goals
        go_enter Tryd.func45, Tryd.ntmps45
        go_wp2
        go_ret
        exact ⟨ret_bool (by rw [HR.out]), rfl⟩
  · have HR : Hid (hglB a b = false) := hgl_other a b (fun e => h (.inl e)) (fun e => h (.inr (.inl e))) (fun e => h (.inr (.inr (.inl e)))) (fun e => h (.inr (.inr (.inr (.inl e))))) (fun e => h (.inr (.inr (.inr (.inr e)))))
    have n9 : (a == 9) = false := beq_eq_false_iff_ne.2 (fun e => h (.inl e))
    have n12 : (a == 12) = false := beq_eq_false_iff_ne.2 (fun e => h (.inr (.inl e)))
    have n10 : (a == 10) = false := beq_eq_false_iff_ne.2 (fun e => h (.inr (.inr (.inl e))))
    have n13 : (a == 13) = false := beq_eq_false_iff_ne.2 (fun e => h (.inr (.inr (.inr (.inl e)))))
    have n11 : (a == 11) = false := beq_eq_false_iff_ne.2 (fun e => h (.inr (.inr (.inr (.inr e)))))
    clear h
    go_enter Tryd.func45, Tryd.ntmps45
    go_wp2
    go_ret
    exact ⟨ret_bool (by rw [HR.out]), rfl⟩

/-- The reader's five variables, in five blocks from B on. -/
structure RCells (w : World) (B : Nat) (s : RS) : Prop where
  a : w.heap[B]? = some (.cells #[.bool s.any] 4 (0, 0))
  l : w.heap[B + 1]? = some (.cells #[.int .i64 s.last] 3 (0, 0))
  f : w.heap[B + 2]? = some (.cells #[.int .i64 s.flags] 3 (0, 0))
  p : w.heap[B + 3]? = some (.cells #[.bool s.picto] 4 (0, 0))
  k : w.heap[B + 4]? = some (.cells #[.bool s.linked] 4 (0, 0))

/-- All but the five blocks is as it was; blocks may be new. -/
structure Rk (B : Nat) (w w' : World) : Prop where
  os : w'.os = w.os
  tape : w'.tape = w.tape
  output : w'.output = w.output
  size : w.heap.size ≤ w'.heap.size
  block : ∀ k, k < w.heap.size → (k < B ∨ B + 5 ≤ k) → w'.heap[k]? = w.heap[k]?

section
variable {w w' w'' : World} {B : Nat} {s : RS}
theorem Rk.refl (B : Nat) (w : World) : Rk B w w := ⟨rfl, rfl, rfl, Nat.le_refl _, fun _ _ _ => rfl⟩
theorem Rk.trans (h : Rk B w w') (k : Rk B w' w'') : Rk B w w'' :=
  ⟨k.os.trans h.os, k.tape.trans h.tape, k.output.trans h.output, Nat.le_trans h.size k.size, fun j hj hx => (k.block j (Nat.lt_of_lt_of_le hj h.size) hx).trans (h.block j hj hx)⟩
theorem Rk.setCell (h : Rk B w w') {p : Addr} (h1 : B ≤ p.block) (h2 : p.block < B + 5) (u : Value) : Rk B w (w'.setCell p u) :=
  ⟨h.os, h.tape, h.output, Nat.le_trans h.size (by simp [World.setCell]), fun j hj hx => (Below.heap_setCell _ _ _ _ (by omega)).trans (h.block j hj hx)⟩
theorem Rk.of_below {b : Nat} (h : Below b w w') (hb : w.heap.size ≤ b) : Rk B w w' := ⟨h.os, h.tape, h.output, h.size, fun k hk _ => h.block k (by omega)⟩
theorem Rk.below (h : Rk B w w') (hB : B ≤ w.heap.size) : Below B w w' := ⟨h.os, h.tape, h.output, h.size, fun k hk => h.block k (by omega) (.inl hk)⟩
theorem Rk.cell (h : Rk B w w') {p : Addr} (hp : p.block < w.heap.size) (hx : p.block < B ∨ B + 5 ≤ p.block) : w'.cell? p = w.cell? p := by
  simp only [World.cell?, h.block p.block hp hx]
theorem Rk.own (h : Rk B w w') {b : Nat} {e : TypeId} {size : Nat} {v : Value} {n : Nat} {xs : List Value} (ho : w.ownsRow b e size v n xs) (hv : ∀ g, v.ownBlock = some g → g < B ∨ B + 5 ≤ g) : w'.ownsRow b e size v n xs := by
  obtain ⟨h1, h2⟩ := ho
  refine ⟨h1, ?_⟩
  rcases h2 with h2 | ⟨g, cap, cur, rfl, hg, hh, hrest⟩
  · exact .inl h2
  · have hlt : g < w.heap.size := (Array.getElem?_eq_some_iff.1 hh).1
    exact .inr ⟨g, cap, cur, rfl, hg, (h.block g hlt (hv g rfl)).trans hh, hrest⟩
theorem RCells.lt (h : RCells w B s) : B + 4 < w.heap.size := (Array.getElem?_eq_some_iff.1 h.k).1
theorem RCells.keep (h : RCells w B s) (hk : ∀ k, k < w.heap.size → B ≤ k → k < B + 5 → w'.heap[k]? = w.heap[k]?) : RCells w' B s := by
  have := h.lt
  exact ⟨(hk B (by omega) (by omega) (by omega)).trans h.a, (hk _ (by omega) (by omega) (by omega)).trans h.l, (hk _ (by omega) (by omega) (by omega)).trans h.f, (hk _ (by omega) (by omega) (by omega)).trans h.p, (hk _ (by omega) (by omega) (by omega)).trans h.k⟩
theorem RCells.below {b : Nat} (h : RCells w B s) (hb : Below b w w') (hB : w.heap.size ≤ b) : RCells w' B s := h.keep fun k hk _ _ => hb.block k (by omega)
theorem set_one {g : Nat} {v u : Value} {t : TypeId} (h : w.heap[g]? = some (.cells #[v] t (0, 0))) : (w.setCell ⟨g, 0, none⟩ u).heap[g]? = some (.cells #[u] t (0, 0)) := by
  simp [World.setCell, Array.getElem?_modify, h]
theorem set_far {g j : Nat} {u : Value} (h : j ≠ g) : (w.setCell ⟨g, 0, none⟩ u).heap[j]? = w.heap[j]? := Below.heap_setCell _ _ _ _ h
theorem RCells.setA (h : RCells w B s) (b : Bool) : RCells (w.setCell ⟨B, 0, none⟩ (.bool b)) B { s with any := b } :=
  ⟨set_one h.a, (set_far (by omega)).trans h.l, (set_far (by omega)).trans h.f, (set_far (by omega)).trans h.p, (set_far (by omega)).trans h.k⟩
theorem RCells.setL (h : RCells w B s) (b : Int) : RCells (w.setCell ⟨B + 1, 0, none⟩ (.int .i64 b)) B { s with last := b } :=
  ⟨(set_far (by omega)).trans h.a, set_one h.l, (set_far (by omega)).trans h.f, (set_far (by omega)).trans h.p, (set_far (by omega)).trans h.k⟩
theorem RCells.setF (h : RCells w B s) (b : Int) : RCells (w.setCell ⟨B + 2, 0, none⟩ (.int .i64 b)) B { s with flags := b } :=
  ⟨(set_far (by omega)).trans h.a, (set_far (by omega)).trans h.l, set_one h.f, (set_far (by omega)).trans h.p, (set_far (by omega)).trans h.k⟩
theorem RCells.setP (h : RCells w B s) (b : Bool) : RCells (w.setCell ⟨B + 3, 0, none⟩ (.bool b)) B { s with picto := b } :=
  ⟨(set_far (by omega)).trans h.a, (set_far (by omega)).trans h.l, (set_far (by omega)).trans h.f, set_one h.p, (set_far (by omega)).trans h.k⟩
theorem RCells.setK (h : RCells w B s) (b : Bool) : RCells (w.setCell ⟨B + 4, 0, none⟩ (.bool b)) B { s with linked := b } :=
  ⟨(set_far (by omega)).trans h.a, (set_far (by omega)).trans h.l, (set_far (by omega)).trans h.f, (set_far (by omega)).trans h.p, set_one h.k⟩
theorem RCells.ca (h : RCells w B s) : w.cell? ⟨B, 0, none⟩ = some (.bool s.any) := by rw [cell_of_row w B 0 _ _ _ h.a]; rfl
theorem RCells.cl (h : RCells w B s) : w.cell? ⟨B + 1, 0, none⟩ = some (.int .i64 s.last) := by rw [cell_of_row w _ 0 _ _ _ h.l]; rfl
theorem RCells.cf (h : RCells w B s) : w.cell? ⟨B + 2, 0, none⟩ = some (.int .i64 s.flags) := by rw [cell_of_row w _ 0 _ _ _ h.f]; rfl
theorem RCells.cp (h : RCells w B s) : w.cell? ⟨B + 3, 0, none⟩ = some (.bool s.picto) := by rw [cell_of_row w _ 0 _ _ _ h.p]; rfl
theorem RCells.ck (h : RCells w B s) : w.cell? ⟨B + 4, 0, none⟩ = some (.bool s.linked) := by rw [cell_of_row w _ 0 _ _ _ h.k]; rfl
theorem frz_one {g : Nat} {cs : Array Value} {t : TypeId} (h : w.heap[g]? = some (.cells cs t (0, 0))) : w.frozen? ⟨g, 0, none⟩ = false := by simp [World.frozen?, h]
end

theorem five_new (w : World) (o0 o1 o2 o3 o4 : Obj) : (((((w.alloc o0).alloc o1).alloc o2).alloc o3).alloc o4).heap[w.heap.size]? = some o0 ∧
    (((((w.alloc o0).alloc o1).alloc o2).alloc o3).alloc o4).heap[w.heap.size + 1]? = some o1 ∧ (((((w.alloc o0).alloc o1).alloc o2).alloc o3).alloc o4).heap[w.heap.size + 2]? = some o2 ∧
    (((((w.alloc o0).alloc o1).alloc o2).alloc o3).alloc o4).heap[w.heap.size + 3]? = some o3 ∧ (((((w.alloc o0).alloc o1).alloc o2).alloc o3).alloc o4).heap[w.heap.size + 4]? = some o4 := by
  have s1 : (w.alloc o0).heap.size = w.heap.size + 1 := by simp
  have s2 : ((w.alloc o0).alloc o1).heap.size = w.heap.size + 2 := by simp
  have s3 : (((w.alloc o0).alloc o1).alloc o2).heap.size = w.heap.size + 3 := by simp
  have s4 : ((((w.alloc o0).alloc o1).alloc o2).alloc o3).heap.size = w.heap.size + 4 := by simp
  have n0 := heap_alloc_new w o0
  have n1 := heap_alloc_new (w.alloc o0) o1
  have n2 := heap_alloc_new ((w.alloc o0).alloc o1) o2
  have n3 := heap_alloc_new (((w.alloc o0).alloc o1).alloc o2) o3
  have n4 := heap_alloc_new ((((w.alloc o0).alloc o1).alloc o2).alloc o3) o4
  rw [s1] at n1
  rw [s2] at n2
  rw [s3] at n3
  rw [s4] at n4
  refine ⟨?_, ?_, ?_, ?_, n4⟩
  · rw [Below.heap_alloc _ _ _ (by omega), Below.heap_alloc _ _ _ (by omega), Below.heap_alloc _ _ _ (by omega), Below.heap_alloc _ _ _ (by omega), n0]
  · rw [Below.heap_alloc _ _ _ (by omega), Below.heap_alloc _ _ _ (by omega), Below.heap_alloc _ _ _ (by omega), n1]
  · rw [Below.heap_alloc _ _ _ (by omega), Below.heap_alloc _ _ _ (by omega), n2]
  · rw [Below.heap_alloc _ _ _ (by omega), n3]

/-- The closure that reader hands back. -/
def rClo (B : Nat) : Value := .func (.func 42) #[] #[.pointer (some ⟨B, 0, none⟩), .pointer (some ⟨B + 1, 0, none⟩), .pointer (some ⟨B + 4, 0, none⟩), .pointer (some ⟨B + 2, 0, none⟩), .pointer (some ⟨B + 3, 0, none⟩)]

set_option maxHeartbeats 1000000 in
theorem reader_any (w : World) : Calls Tryd.prog 29 #[] w fun e w' => e = .returned (rClo w.heap.size) ∧ RCells w' w.heap.size rs0 ∧ Below w.heap.size w w' ∧ w'.heap.size = w.heap.size + 5 := by
  go_enter Tryd.func29, Tryd.ntmps29
  go_wp2
  go_ret
  obtain ⟨h0, h1, h2, h3, h4⟩ := five_new w (.cells #[.bool false] 4) (.cells #[.int .i64 0] 3) (.cells #[.int .i64 0] 3) (.cells #[.bool false] 4) (.cells #[.bool false] 4)
  exact ⟨rfl, ⟨h0, h1, h2, h3, h4⟩, (((((Below.refl _ _).alloc (Nat.le_refl _) _).alloc (by simp) _).alloc (by simp; omega) _).alloc (by simp; omega) _).alloc (by simp; omega) _, by simp⟩

theorem brk_of {k : Int} : brkB k = true ↔ (k = 1 ∨ k = 2 ∨ k = 3) := by simp [brkB]

set_option maxRecDepth 100000 in
set_option maxHeartbeats 4000000 in
theorem rstep_any (B : Nat) (s : RS) (c : Int) (w : World) (h : RCells w B s) (h0 : -9223372036854775808 ≤ c) (h1 : c ≤ 9223372036854775807) (hf0 : 0 ≤ s.flags) (hf1 : s.flags ≤ 1000000) :
    Calls Tryd.prog 42 #[.int .i64 c, .pointer (some ⟨B, 0, none⟩), .pointer (some ⟨B + 1, 0, none⟩), .pointer (some ⟨B + 4, 0, none⟩), .pointer (some ⟨B + 2, 0, none⟩), .pointer (some ⟨B + 3, 0, none⟩)] w
      fun e w' => e = .returned (.bool (rIs s (ofI c))) ∧ RCells w' B (rNext s (ofI c)) ∧ Rk B w w' := by
  have hob := ofI_bd c
  have CO := Lib.hid (fun W : World => of_any c W h0 h1)
  obtain ⟨k, hk⟩ : ∃ k, ofI c = k := ⟨_, rfl⟩
  rw [hk] at hob CO ⊢
  clear hk
  obtain ⟨hob0, hob1⟩ := hob
  have HC := Lib.hid h
  clear h
  go_enter Tryd.func42, Tryd.ntmps42
  go_wp2_with fail
  refine (CO.out w).mono ?_
  rintro e w1 ⟨rfl, b1⟩
  have HC1 := Lib.hid (HC.out.below b1 (Nat.le_refl _))
  have R1 := aside (Rk.of_below (B := B) b1 (Nat.le_refl _))
  clear b1
  have ca := HC1.out.ca
  have cl := HC1.out.cl
  have cf := HC1.out.cf
  have cp := HC1.out.cp
  have ck := HC1.out.ck
  obtain ⟨sa, sl, sf, sp, sk⟩ := s
  simp only at ca cl cf cp ck hf0 hf1
  go_upto_block 0 with fail
  go_cut [9] (fun t9 wx => t9 = .bool (rIs ⟨sa, sl, sf, sp, sk⟩ k) ∧ w1 = wx)
  case first =>
    have CB1 := fun W : World => breaks_any sl W
    have CB2 := fun W : World => breaks_any k W
    have CH := fun W : World => hangul_any sl k W
    cases sa with
    | false =>
      have HI : Hid (rIs ⟨false, sl, sf, sp, sk⟩ k = false) := rfl
      go_wp2_with fail
      go_meet
      exact ⟨by rw [HI.out], rfl⟩
    | true =>
      by_cases l1 : sl = 1
      · subst l1
        rw [show brkB 1 = true from rfl] at CB1
        by_cases k2 : k = 2
        · subst k2
          have HI : Hid (rIs ⟨true, 1, sf, sp, sk⟩ 2 = true) := by show _ = _; simp [rIs]
          go_wp2_with (first
            | (go_at_call 44; first | (with_reducible refine (CB1 _).mono ?_) | (with_reducible refine (CB2 _).mono ?_)
               rintro e w' ⟨rfl, rfl⟩)
            | (go_at_call 45; refine (CH _).mono ?_; rintro e w' ⟨rfl, rfl⟩))
          go_meet
          exact ⟨by rw [HI.out], rfl⟩
        · have HI : Hid (rIs ⟨true, 1, sf, sp, sk⟩ k = false) := by
            show _ = _
            have e : brkB 1 = true := rfl
            simp [rIs, k2, e]
          have n2 : (k == 2) = false := by simpa using k2
          clear k2
          go_wp2_with (first
            | (go_at_call 44; first | (with_reducible refine (CB1 _).mono ?_) | (with_reducible refine (CB2 _).mono ?_)
               rintro e w' ⟨rfl, rfl⟩)
            | (go_at_call 45; refine (CH _).mono ?_; rintro e w' ⟨rfl, rfl⟩))
          go_meet
          exact ⟨by rw [HI.out], rfl⟩
      · have m1 : (sl == 1) = false := by simpa using l1
        by_cases bl : brkB sl = true
        · have HI : Hid (rIs ⟨true, sl, sf, sp, sk⟩ k = false) := by show _ = _; simp [rIs, l1, bl]
          rw [bl] at CB1
          clear bl l1
          go_wp2_with (first
            | (go_at_call 44; first | (with_reducible refine (CB1 _).mono ?_) | (with_reducible refine (CB2 _).mono ?_)
               rintro e w' ⟨rfl, rfl⟩)
            | (go_at_call 45; refine (CH _).mono ?_; rintro e w' ⟨rfl, rfl⟩))
          go_meet
          exact ⟨by rw [HI.out], rfl⟩
        · have bl' : brkB sl = false := by simpa using bl
          rw [bl'] at CB1
          by_cases bk : brkB k = true
          · have HI : Hid (rIs ⟨true, sl, sf, sp, sk⟩ k = false) := by show _ = _; simp [rIs, l1, bk]
            rw [bk] at CB2
            clear bl bl' l1 bk
            go_wp2_with (first
              | (go_at_call 44; first | (with_reducible refine (CB1 _).mono ?_) | (with_reducible refine (CB2 _).mono ?_)
                 rintro e w' ⟨rfl, rfl⟩)
              | (go_at_call 45; refine (CH _).mono ?_; rintro e w' ⟨rfl, rfl⟩))
            go_meet
            exact ⟨by rw [HI.out], rfl⟩
          · have bk' : brkB k = false := by simpa using bk
            rw [bk'] at CB2
            by_cases hg : hglB sl k = true
            · have HI : Hid (rIs ⟨true, sl, sf, sp, sk⟩ k = true) := by show _ = _; simp [rIs, l1, bl', bk', hg]
              rw [hg] at CH
              clear bl bl' l1 bk bk' hg
              go_wp2_with (first
                | (go_at_call 44; first | (with_reducible refine (CB1 _).mono ?_) | (with_reducible refine (CB2 _).mono ?_)
                   rintro e w' ⟨rfl, rfl⟩)
                | (go_at_call 45; refine (CH _).mono ?_; rintro e w' ⟨rfl, rfl⟩))
              go_meet
              exact ⟨by rw [HI.out], rfl⟩
            · have hg' : hglB sl k = false := by simpa using hg
              rw [hg'] at CH
              by_cases k4 : k = 4
              · subst k4
                have HI : Hid (rIs ⟨true, sl, sf, sp, sk⟩ 4 = true) := by show _ = _; simp [rIs, l1, bl', bk', hg']
                clear bl bl' l1 bk bk' hg hg'
                go_wp2_with (first
                  | (go_at_call 44; first | (with_reducible refine (CB1 _).mono ?_) | (with_reducible refine (CB2 _).mono ?_)
                     rintro e w' ⟨rfl, rfl⟩)
                  | (go_at_call 45; refine (CH _).mono ?_; rintro e w' ⟨rfl, rfl⟩))
                go_meet
                exact ⟨by rw [HI.out], rfl⟩
              · have n4 : (k == 4) = false := by simpa using k4
                by_cases k5 : k = 5
                · subst k5
                  have HI : Hid (rIs ⟨true, sl, sf, sp, sk⟩ 5 = true) := by show _ = _; simp [rIs, l1, bl', bk', hg']
                  clear bl bl' l1 bk bk' hg hg'
                  go_wp2_with (first
                    | (go_at_call 44; first | (with_reducible refine (CB1 _).mono ?_) | (with_reducible refine (CB2 _).mono ?_)
                       rintro e w' ⟨rfl, rfl⟩)
                    | (go_at_call 45; refine (CH _).mono ?_; rintro e w' ⟨rfl, rfl⟩))
                  go_meet
                  exact ⟨by rw [HI.out], rfl⟩
                · have n5 : (k == 5) = false := by simpa using k5
                  by_cases k8 : k = 8
                  · subst k8
                    have HI : Hid (rIs ⟨true, sl, sf, sp, sk⟩ 8 = true) := by show _ = _; simp [rIs, l1, bl', bk', hg']
                    clear bl bl' l1 bk bk' hg hg'
                    go_wp2_with (first
                      | (go_at_call 44; first | (with_reducible refine (CB1 _).mono ?_) | (with_reducible refine (CB2 _).mono ?_)
                         rintro e w' ⟨rfl, rfl⟩)
                      | (go_at_call 45; refine (CH _).mono ?_; rintro e w' ⟨rfl, rfl⟩))
                    go_meet
                    exact ⟨by rw [HI.out], rfl⟩
                  · have n8 : (k == 8) = false := by simpa using k8
                    by_cases l7 : sl = 7
                    · subst l7
                      have HI : Hid (rIs ⟨true, 7, sf, sp, sk⟩ k = true) := by show _ = _; simp [rIs, bl', bk']
                      clear bl bl' l1 bk bk' hg hg' k4 k5 k8
                      go_wp2_with (first
                        | (go_at_call 44; first | (with_reducible refine (CB1 _).mono ?_) | (with_reducible refine (CB2 _).mono ?_)
                           rintro e w' ⟨rfl, rfl⟩)
                        | (go_at_call 45; refine (CH _).mono ?_; rintro e w' ⟨rfl, rfl⟩))
                      go_meet
                      exact ⟨by rw [HI.out], rfl⟩
                    · have m7 : (sl == 7) = false := by simpa using l7
                      by_cases k14 : k = 14
                      · subst k14
                        have HI : Hid (rIs ⟨true, sl, sf, sp, sk⟩ 14 = sk) := by show _ = _; simp [rIs, l1, bl', bk', hg', l7]
                        clear bl bl' l1 bk bk' hg hg' k4 k5 k8 l7
                        go_wp2_with (first
                          | (go_at_call 44; first | (with_reducible refine (CB1 _).mono ?_) | (with_reducible refine (CB2 _).mono ?_)
                             rintro e w' ⟨rfl, rfl⟩)
                          | (go_at_call 45; refine (CH _).mono ?_; rintro e w' ⟨rfl, rfl⟩))
                        go_meet
                        exact ⟨by rw [HI.out], rfl⟩
                      · have n14 : (k == 14) = false := by simpa using k14
                        by_cases k6 : k = 6
                        · subst k6
                          have HI : Hid (rIs ⟨true, sl, sf, sp, sk⟩ 6 = (sf % 2 == 1)) := by show _ = _; simp [rIs, l1, bl', bk', hg', l7]
                          clear bl bl' l1 bk bk' hg hg' k4 k5 k8 l7 k14
                          go_wp2_with (first
                            | (go_at_call 44; first | (with_reducible refine (CB1 _).mono ?_) | (with_reducible refine (CB2 _).mono ?_)
                               rintro e w' ⟨rfl, rfl⟩)
                            | (go_at_call 45; refine (CH _).mono ?_; rintro e w' ⟨rfl, rfl⟩))
                          go_meet
                          exact ⟨by rw [HI.out], rfl⟩
                        · have n6 : (k == 6) = false := by simpa using k6
                          have HI : Hid (rIs ⟨true, sl, sf, sp, sk⟩ k = false) := by
                            show _ = _
                            have e2 : ¬ (sl = 1 ∧ k = 2) := fun h => l1 h.1
                            simp [rIs, l1, bl', bk', hg', l7, k4, k5, k8, k14, k6]
                          clear bl bl' l1 bk bk' hg hg' k4 k5 k8 l7 k14 k6
                          go_wp2_with (first
                            | (go_at_call 44; first | (with_reducible refine (CB1 _).mono ?_) | (with_reducible refine (CB2 _).mono ?_)
                               rintro e w' ⟨rfl, rfl⟩)
                            | (go_at_call 45; refine (CH _).mono ?_; rintro e w' ⟨rfl, rfl⟩))
                          go_meet
                          exact ⟨by rw [HI.out], rfl⟩
  case rest =>
    obtain ⟨rfl, rfl⟩ := hcut
    obtain ⟨is, his⟩ : ∃ is, rIs ⟨sa, sl, sf, sp, sk⟩ k = is := ⟨_, rfl⟩
    have HIS := Lib.hid his
    have f0 := frz_one HC1.out.a
    have f1 := frz_one HC1.out.l
    have f2 := frz_one HC1.out.f
    have f3 := frz_one HC1.out.p
    have f4 := frz_one HC1.out.k
    rw [his]
    clear his
    have hk : (k = 5) ∨ (k = 14) ∨ (k = 4) ∨ (k = 6) ∨ ((k == 5) = false ∧ (k == 14) = false ∧ (k == 4) = false ∧ (k == 6) = false ∧ (k != 6) = true ∧ Hid (k ≠ 5 ∧ k ≠ 14 ∧ k ≠ 4 ∧ k ≠ 6)) := by
      by_cases h5 : k = 5
      · exact .inl h5
      · by_cases h14 : k = 14
        · exact .inr (.inl h14)
        · by_cases h4 : k = 4
          · exact .inr (.inr (.inl h4))
          · by_cases h6 : k = 6
            · exact .inr (.inr (.inr (.inl h6)))
            · exact .inr (.inr (.inr (.inr ⟨by simpa using h5, by simpa using h14, by simpa using h4, by simpa using h6, by simpa using h6, h5, h14, h4, h6⟩)))
    cases sp with
    | false =>
      rcases hk with rfl | rfl | rfl | rfl | ⟨n5, n14, n4, n6, m6, HK⟩
      · have HN : Hid (rNext ⟨sa, sl, sf, false, sk⟩ 5 = ⟨true, 5, 0, false, false⟩) := by show _ = _; simp [rNext]
        go_wp2
        go_ret
        refine ⟨ret_bool (by rw [HIS.out]), ?_, ?_⟩
        · rw [HN.out]
          exact (((((HC1.out.setK false).setP false).setF (sf + 1)).setF 0).setA true).setL 5
        · exact ((((((R1.out.setCell (by simp) (by simp) _).setCell (by simp) (by simp) _).setCell (by simp) (by simp) _).setCell (by simp) (by simp) _).setCell (by simp) (by simp) _).setCell (by simp) (by simp) _)
      · have HN : Hid (rNext ⟨sa, sl, sf, false, sk⟩ 14 = ⟨true, 14, 0, true, false⟩) := by show _ = _; simp [rNext]
        go_wp2
        go_ret
        refine ⟨ret_bool (by rw [HIS.out]), ?_, ?_⟩
        · rw [HN.out]
          exact (((((HC1.out.setK false).setP true).setF (sf + 1)).setF 0).setA true).setL 14
        · exact ((((((R1.out.setCell (by simp) (by simp) _).setCell (by simp) (by simp) _).setCell (by simp) (by simp) _).setCell (by simp) (by simp) _).setCell (by simp) (by simp) _).setCell (by simp) (by simp) _)
      · have HN : Hid (rNext ⟨sa, sl, sf, false, sk⟩ 4 = ⟨true, 4, 0, false, false⟩) := by show _ = _; simp [rNext]
        go_wp2
        go_ret
        refine ⟨ret_bool (by rw [HIS.out]), ?_, ?_⟩
        · rw [HN.out]
          exact (((((HC1.out.setK false).setP false).setF (sf + 1)).setF 0).setA true).setL 4
        · exact ((((((R1.out.setCell (by simp) (by simp) _).setCell (by simp) (by simp) _).setCell (by simp) (by simp) _).setCell (by simp) (by simp) _).setCell (by simp) (by simp) _).setCell (by simp) (by simp) _)
      · have HN : Hid (rNext ⟨sa, sl, sf, false, sk⟩ 6 = ⟨true, 6, sf + 1, false, false⟩) := by show _ = _; simp [rNext]
        go_wp2
        go_ret
        refine ⟨ret_bool (by rw [HIS.out]), ?_, ?_⟩
        · rw [HN.out]
          exact ((((HC1.out.setK false).setP false).setF (sf + 1)).setA true).setL 6
        · exact (((((R1.out.setCell (by simp) (by simp) _).setCell (by simp) (by simp) _).setCell (by simp) (by simp) _).setCell (by simp) (by simp) _).setCell (by simp) (by simp) _)
      · have HN : Hid (rNext ⟨sa, sl, sf, false, sk⟩ k = ⟨true, k, 0, false, false⟩) := by show _ = _; simp [rNext, HK.out.1, HK.out.2.1, HK.out.2.2.1, HK.out.2.2.2]
        go_wp2
        go_ret
        refine ⟨ret_bool (by rw [HIS.out]), ?_, ?_⟩
        · rw [HN.out]
          exact (((((HC1.out.setK false).setP false).setF (sf + 1)).setF 0).setA true).setL k
        · exact ((((((R1.out.setCell (by simp) (by simp) _).setCell (by simp) (by simp) _).setCell (by simp) (by simp) _).setCell (by simp) (by simp) _).setCell (by simp) (by simp) _).setCell (by simp) (by simp) _)
    | true =>
      rcases hk with rfl | rfl | rfl | rfl | ⟨n5, n14, n4, n6, m6, HK⟩
      · have HN : Hid (rNext ⟨sa, sl, sf, true, sk⟩ 5 = ⟨true, 5, 0, false, true⟩) := by show _ = _; simp [rNext]
        go_wp2
        go_ret
        refine ⟨ret_bool (by rw [HIS.out]), ?_, ?_⟩
        · rw [HN.out]
          exact (((((HC1.out.setK true).setP false).setF (sf + 1)).setF 0).setA true).setL 5
        · exact ((((((R1.out.setCell (by simp) (by simp) _).setCell (by simp) (by simp) _).setCell (by simp) (by simp) _).setCell (by simp) (by simp) _).setCell (by simp) (by simp) _).setCell (by simp) (by simp) _)
      · have HN : Hid (rNext ⟨sa, sl, sf, true, sk⟩ 14 = ⟨true, 14, 0, true, false⟩) := by show _ = _; simp [rNext]
        go_wp2
        go_ret
        refine ⟨ret_bool (by rw [HIS.out]), ?_, ?_⟩
        · rw [HN.out]
          exact (((((HC1.out.setK false).setP true).setF (sf + 1)).setF 0).setA true).setL 14
        · exact ((((((R1.out.setCell (by simp) (by simp) _).setCell (by simp) (by simp) _).setCell (by simp) (by simp) _).setCell (by simp) (by simp) _).setCell (by simp) (by simp) _).setCell (by simp) (by simp) _)
      · have HN : Hid (rNext ⟨sa, sl, sf, true, sk⟩ 4 = ⟨true, 4, 0, true, false⟩) := by show _ = _; simp [rNext]
        go_wp2
        go_ret
        refine ⟨ret_bool (by rw [HIS.out]), ?_, ?_⟩
        · rw [HN.out]
          exact (((((HC1.out.setK false).setP true).setF (sf + 1)).setF 0).setA true).setL 4
        · exact ((((((R1.out.setCell (by simp) (by simp) _).setCell (by simp) (by simp) _).setCell (by simp) (by simp) _).setCell (by simp) (by simp) _).setCell (by simp) (by simp) _).setCell (by simp) (by simp) _)
      · have HN : Hid (rNext ⟨sa, sl, sf, true, sk⟩ 6 = ⟨true, 6, sf + 1, false, false⟩) := by show _ = _; simp [rNext]
        go_wp2
        go_ret
        refine ⟨ret_bool (by rw [HIS.out]), ?_, ?_⟩
        · rw [HN.out]
          exact ((((HC1.out.setK false).setP false).setF (sf + 1)).setA true).setL 6
        · exact (((((R1.out.setCell (by simp) (by simp) _).setCell (by simp) (by simp) _).setCell (by simp) (by simp) _).setCell (by simp) (by simp) _).setCell (by simp) (by simp) _)
      · have HN : Hid (rNext ⟨sa, sl, sf, true, sk⟩ k = ⟨true, k, 0, false, false⟩) := by show _ = _; simp [rNext, HK.out.1, HK.out.2.1, HK.out.2.2.1, HK.out.2.2.2]
        go_wp2
        go_ret
        refine ⟨ret_bool (by rw [HIS.out]), ?_, ?_⟩
        · rw [HN.out]
          exact (((((HC1.out.setK false).setP false).setF (sf + 1)).setF 0).setA true).setL k
        · exact ((((((R1.out.setCell (by simp) (by simp) _).setCell (by simp) (by simp) _).setCell (by simp) (by simp) _).setCell (by simp) (by simp) _).setCell (by simp) (by simp) _).setCell (by simp) (by simp) _)

end Go.Proofs.YtaocnnebfnlgiaaDoor
