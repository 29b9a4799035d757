/-
  A slice that reads as a list, in blocks of a kind; contracts of the reference's history (a struct by value).
-/
import Derived.Test.YtilblnolfcbdlaaHistL
import Derived.Test.YtilblnolfcbdlaaOwn
import Derived.Laws.AppendOwnNone
namespace Go.Proofs.Ytilblnolfcbdlaa
open Go.RowKit

/-- A slice that reads as a list; what holds elements lies in one of X's blocks. -/
def RInts (w : World) (X : Nat → Prop) (v : Value) (l : List Int) : Prop :=
  (v = .slice none 0 0 ∧ l = []) ∨ ∃ b off c, v = .slice (some ⟨b, off, none⟩) l.length c ∧ l.length ≤ c ∧ c ≤ 9223372036854775807 ∧ ∀ j, j < l.length → X b ∧ w.cell? ⟨b, off + j, none⟩ = some (.int .i64 (l.getD j 0))
theorem RInts.nil_ (w : World) (X : Nat → Prop) : RInts w X (.slice none 0 0) [] := .inl ⟨rfl, rfl⟩
theorem RInts.keep {w w' : World} {X X' : Nat → Prop} {v : Value} {l : List Int} (h : RInts w X v l) (hk : ∀ b, X b → b < w.heap.size → X' b ∧ w'.heap[b]? = w.heap[b]?) : RInts w' X' v l := by
  rcases h with h | ⟨b, off, c, rfl, h1, h2, hc⟩
  · exact .inl h
  · refine .inr ⟨b, off, c, rfl, h1, h2, fun j hj => ?_⟩
    obtain ⟨hx, hcell⟩ := hc j hj
    have hlt : b < w.heap.size := World.block_lt_of_cell? w _ hcell
    obtain ⟨hx', he⟩ := hk b hx hlt
    exact ⟨hx', by rw [← hcell]; exact World.cell?_of_block he⟩
theorem RInts.below {w w' : World} {X : Nat → Prop} {v : Value} {l : List Int} (h : RInts w X v l) (hb : Below w.heap.size w w') : RInts w' X v l :=
  h.keep fun b hx hlt => ⟨hx, hb.block b hlt⟩
theorem RInts.of_own {w : World} {X : Nat → Prop} {B : Nat} {e : TypeId} {v : Value} {l : List Int} (h : w.ownsRow B e 1 v l.length (ints l)) (hX : ∀ k, v.ownBlock = some k → X k) : RInts w X v l := by
  rcases h.2 with ⟨rfl, h0⟩ | ⟨g, cap, cur, rfl, _, _, hnc, hcm, _⟩
  · exact .inl ⟨rfl, List.eq_nil_of_length_eq_zero h0⟩
  · refine .inr ⟨g, 0, cap, rfl, hnc, hcm, fun j hj => ⟨hX g rfl, ?_⟩⟩
    have := h.cellAt j (by omega)
    rw [Nat.zero_add, this, ints_get l j hj]
theorem RInts.len_le {w : World} {X : Nat → Prop} {A : Option Addr} {n c : Nat} {l : List Int} (h : RInts w X (.slice A n c) l) : n = l.length := by
  rcases h with ⟨h, rfl⟩ | ⟨b, off, c', h, _⟩
  · injection h with _ h _
  · injection h

/-- The last cap of a list with one more. -/
def pushR (cap : Nat) (l : List Int) (n : Int) : List Int := (l ++ [n]).drop (l.length + 1 - cap)
theorem pushR_eq (cap : Nat) (l : List Int) (n : Int) (h : l.length ≤ cap) : pushR cap l n = pushL cap l n := by
  unfold pushR pushL
  by_cases hc : cap < l.length + 1
  · rw [if_pos hc, show l.length + 1 - cap = 1 by omega]
  · rw [if_neg hc, show l.length + 1 - cap = 0 by omega]; rfl

theorem info_int6 : (Try.prog.info? 3).map (fun i => (i.zero, i.size, i.bytes)) = some (some (.int .i64 0), 1, 8) := by kernel_rfl

/-- The reference's history as a value. -/
def hagg (cap : Nat) (vb va : Value) (run : Int) : Value := .agg #[.int .i64 (cap : Int), vb, va, .int .i64 run]

/-- A block that is known whole. -/
def Blk4 (w : World) (g : Nat) (a b c d : Value) : Prop := w.heap[g]? = some (.cells #[a, b, c, d] 47 (0, 0))
section
variable {w w' : World} {g : Nat} {a b c d : Value}
theorem Blk4.c0 (h : Blk4 w g a b c d) : w.cell? ⟨g, 0, none⟩ = some a := by rw [cell_of_row w g 0 _ _ _ h]; rfl
theorem Blk4.c1 (h : Blk4 w g a b c d) : w.cell? ⟨g, 1, none⟩ = some b := by rw [cell_of_row w g 1 _ _ _ h]; rfl
theorem Blk4.c2 (h : Blk4 w g a b c d) : w.cell? ⟨g, 2, none⟩ = some c := by rw [cell_of_row w g 2 _ _ _ h]; rfl
theorem Blk4.c3 (h : Blk4 w g a b c d) : w.cell? ⟨g, 3, none⟩ = some d := by rw [cell_of_row w g 3 _ _ _ h]; rfl
theorem Blk4.fz (h : Blk4 w g a b c d) (i : Nat) : w.frozen? ⟨g, i, none⟩ = false := frz_of_blk h i
theorem Blk4.lt (h : Blk4 w g a b c d) : g < w.heap.size := (Array.getElem?_eq_some_iff.1 h).1
theorem Blk4.keep (h : Blk4 w g a b c d) (hk : w'.heap[g]? = w.heap[g]?) : Blk4 w' g a b c d := hk.trans h
theorem Blk4.set0 (h : Blk4 w g a b c d) (v : Value) : Blk4 (w.setCell ⟨g, 0, none⟩ v) g v b c d := heap_set w g 0 v _ _ _ h
theorem Blk4.set1 (h : Blk4 w g a b c d) (v : Value) : Blk4 (w.setCell ⟨g, 1, none⟩ v) g a v c d := heap_set w g 1 v _ _ _ h
theorem Blk4.set2 (h : Blk4 w g a b c d) (v : Value) : Blk4 (w.setCell ⟨g, 2, none⟩ v) g a b v d := heap_set w g 2 v _ _ _ h
theorem Blk4.set3 (h : Blk4 w g a b c d) (v : Value) : Blk4 (w.setCell ⟨g, 3, none⟩ v) g a b c v := heap_set w g 3 v _ _ _ h
theorem Blk4.far (h : Blk4 w g a b c d) {p : Addr} (hp : g ≠ p.block) (v : Value) : Blk4 (w.setCell p v) g a b c d := (Below.heap_setCell w p v g hp).trans h
end

/-- What push relies on behind its first append. -/
structure P1 (w W : World) (cap : Nat) (vb va : Value) (run : Int) (v : Value) (beh : List Int) : Prop where
  box : Blk4 W w.heap.size (.int .i64 (cap : Int)) vb va (.int .i64 run)
  res : Blk4 W (w.heap.size + 1) (.int .i64 0) (.slice none 0 0) (.slice none 0 0) (.int .i64 0)
  own : W.ownsRow (w.heap.size + 2) 3 1 v beh.length (ints beh)
  below : Below w.heap.size w W
  size : w.heap.size + 2 ≤ W.heap.size
theorem P1.grown {w W W' : World} {cap : Nat} {vb va : Value} {run : Int} {v v' : Value} {beh beh' : List Int} {row : Option Nat} (h : P1 w W cap vb va run v beh) (hg : W.grownBy W' row) (hr : ∀ k, row = some k → w.heap.size + 2 ≤ k)
    (ho : W'.ownsRow (w.heap.size + 2) 3 1 v' beh'.length (ints beh')) : P1 w W' cap vb va run v' beh' :=
  ⟨h.box.keep (hg.block _ h.box.lt (fun e => by have := hr _ e.symm; omega)), h.res.keep (hg.block _ h.res.lt (fun e => by have := hr _ e.symm; omega)), ho,
   Below.grown h.below hg (by have := h.size; omega) (fun k e => by have := hr k e; omega), Nat.le_trans h.size hg.size⟩
theorem P1.alloc {w W : World} {cap : Nat} {vb va : Value} {run : Int} {v : Value} {beh : List Int} (h : P1 w W cap vb va run v beh) (o : Obj) : P1 w (W.alloc o) cap vb va run v beh :=
  ⟨h.box.keep (Below.heap_alloc _ _ _ h.box.lt), h.res.keep (Below.heap_alloc _ _ _ h.res.lt), h.own.alloc o, h.below.alloc (by have := h.size; omega) o, Nat.le_trans h.size (by simp)⟩
theorem P1.start (w : World) (cap : Nat) (vb va : Value) (run : Int) : P1 w ((w.alloc (.cells #[.int .i64 (cap : Int), vb, va, .int .i64 run] 47)).alloc (.cells #[.int .i64 0, .slice none 0 0, .slice none 0 0, .int .i64 0] 47)) cap vb va run (.slice none 0 0) [] := by
  refine ⟨?_, ?_, World.ownsRow_nil _ _ _ _, ((Below.refl _ _).alloc (Nat.le_refl _) _).alloc (by simp) _, by simp⟩
  · exact heap_alloc2_old w _ _
  · exact heap_alloc2_new w _ _

/-- The world that push leaves: the box's row is new, the result is written. -/
def pushW (w w3 : World) (cap : Nat) (S va : Value) (run : Int) : World :=
  ((((w3.setCell ⟨w.heap.size, 1, none⟩ S).setCell ⟨w.heap.size + 1, 0, none⟩ (.int .i64 (cap : Int))).setCell ⟨w.heap.size + 1, 1, none⟩ S).setCell ⟨w.heap.size + 1, 2, none⟩ va).setCell ⟨w.heap.size + 1, 3, none⟩ (.int .i64 run)
theorem P1.ends {w w3 : World} {cap : Nat} {vb va : Value} {run : Int} {g m c2 k : Nat} {l : List Int} (h : P1 w w3 cap vb va run (.slice (some ⟨g, 0, none⟩) (m + 1) c2) l) (hl : l.length = m + 1) (hk : k ≤ m) :
    Blk4 (pushW w w3 cap (.slice (some ⟨g, k, none⟩) (m + 1 - k) (c2 - k)) va run) (w.heap.size + 1) (.int .i64 (cap : Int)) (.slice (some ⟨g, k, none⟩) (m + 1 - k) (c2 - k)) va (.int .i64 run) ∧
    RInts (pushW w w3 cap (.slice (some ⟨g, k, none⟩) (m + 1 - k) (c2 - k)) va run) (fun b => w.heap.size ≤ b) (.slice (some ⟨g, k, none⟩) (m + 1 - k) (c2 - k)) (l.drop k) ∧
    Below w.heap.size w (pushW w w3 cap (.slice (some ⟨g, k, none⟩) (m + 1 - k) (c2 - k)) va run) := by
  have hgl := h.own.lt g rfl
  refine ⟨?_, ?_, ?_⟩
  · exact ((((h.res.far (p := ⟨w.heap.size, 1, none⟩) (by simp) _).set0 _).set1 _).set2 _).set3 _
  · rcases h.own.2 with ⟨h1, _⟩ | ⟨g', cap', cur, hv, hB, hh, hnc, hcm, _⟩
    · cases h1
    injection hv with e1 e2 e3
    injection e1 with e1
    injection e1 with e1
    subst e1; subst e3
    have hdl : (l.drop k).length = m + 1 - k := by rw [List.length_drop, hl]
    refine .inr ⟨g, k, c2 - k, by rw [hdl], by rw [hdl]; omega, by unfold maxLen at hcm; omega, fun j hj => ⟨by omega, ?_⟩⟩
    have hj2 : j < l.length - k := by rw [← List.length_drop]; exact hj
    have hkj : k + j < l.length := by omega
    have ho := h.own
    rw [hl] at ho
    have hc := ho.cellAt (k + j) (by omega)
    rw [ints_get l (k + j) hkj] at hc
    have hd : (l.drop k).getD j 0 = l.getD (k + j) 0 := by simp [List.getD_eq_getElem?_getD, List.getElem?_drop]
    rw [hd, ← hc]
    have f : ∀ (W : World) (b i : Nat) (u : Value), g ≠ b → (W.setCell ⟨b, i, none⟩ u).cell? ⟨g, k + j, none⟩ = W.cell? ⟨g, k + j, none⟩ :=
      fun W b i u hne => World.cell?_of_block (Below.heap_setCell W ⟨b, i, none⟩ u g hne)
    unfold pushW
    rw [f _ _ _ _ (by omega), f _ _ _ _ (by omega), f _ _ _ _ (by omega), f _ _ _ _ (by omega), f _ _ _ _ (by omega)]
  · exact ((((h.below.setCell (by simp) _).setCell (by simp) _).setCell (by simp) _).setCell (by simp) _).setCell (by simp) _

set_option maxHeartbeats 4000000 in
theorem rpush_any (cap : Nat) (X : Nat → Prop) (vb : Value) (Aa : Option Addr) (na ca : Nat) (beh : List Int) (run n : Int) (w : World) (hb : RInts w X vb beh) (hc0 : 1 ≤ cap) (hc1 : cap ≤ 1024) (hl : beh.length ≤ cap) :
    Calls Try.prog 40 #[.agg #[.int .i64 (cap : Int), vb, .slice Aa na ca, .int .i64 run], .int .i64 n] w fun e w' => ∃ vb', e = .returned (.agg #[.int .i64 (cap : Int), vb', .slice Aa na ca, .int .i64 run]) ∧ RInts w' (fun k => w.heap.size ≤ k) vb' (pushL cap beh n) ∧ Below w.heap.size w w' := by
  obtain ⟨i0, hi, hz0, hz1, hz2⟩ := info_parts info_int6
  have HP := Lib.hid (pushR_eq cap beh n hl)
  have HS := Lib.hid (P1.start w cap vb (.slice Aa na ca) run)
  obtain ⟨m, hm⟩ : ∃ m, beh.length = m := ⟨_, rfl⟩
  have HM := Lib.hid hm
  have hl2 : m ≤ cap := by omega
  have hkk : ∃ k : Nat, max ((m : Int) + 1 - (cap : Int)) 0 = (k : Int) ∧ k ≤ 1 ∧ k ≤ m ∧ m + 1 - cap = k := ⟨m + 1 - cap, by omega, by omega, by omega, rfl⟩
  obtain ⟨k, hk, hk1, hk2, hk3⟩ := hkk
  have HK3 := Lib.hid hk3
  rcases hb with ⟨rfl, rfl⟩ | ⟨b, off, c, rfl, h1, h2, hc⟩
  · simp at hm
    subst hm
    obtain rfl : k = 0 := by omega
    have hkz : max (1 - (cap : Int)) 0 = 0 := by omega
    clear hk hk1 hk2 hk3 hl
    go_enter Try.func40, Try.ntmps40
    go_wp2_with (first
      | (at_builtin
         refine wpList_append_own_none rfl (.tmp 6) (.tmp 8) 27 rfl w.heap.size 3 i0 1 Try.underlying27 hi (.slice none 0 0) 0 [] rfl (World.ownsRow_nil _ _ _ _) rfl ?_
         obtain ⟨W1, hW1⟩ : ∃ W1, W1 = (w.alloc (.cells #[.int .i64 (cap : Int), .slice none 0 0, .slice Aa na ca, .int .i64 run] 47)).alloc (.cells #[.int .i64 0, .slice none 0 0, .slice none 0 0, .int .i64 0] 47) := ⟨_, rfl⟩
         have X1 : Aside (P1 w W1 cap (.slice none 0 0) (.slice Aa na ca) run (.slice none 0 0) []) := by rw [hW1]; exact HS.out
         rw [← hW1]
         clear hW1)
      | (at_builtin
         refine wpList_append_lies _ rfl (.tmp 10) (.tmp 12) 27 rfl (w.heap.size + 2) 3 i0 (.int .i64 0) 1 8 Try.underlying27 hi hz0 hz1 hz2 rfl (by decide) (.slice none 0 0) 0 [] rfl (World.ownsRow_nil _ _ _ _) ⟨W1.heap.size, 0, none⟩ 1 1 [.int .i64 n] rfl rfl (cell_one_new _ _ _) (fun x hx => by simp at hx; subst hx; rfl) (by decide) (by unfold maxLen; omega) (by omega) (by have := X1.out.size; simp; omega) _ rfl ?_
         intro g c2 w3 hown3 hgrow hat hlt
         have X3 : Aside (P1 w w3 cap (.slice none 0 0) (.slice Aa na ca) run (.slice (some ⟨g, 0, none⟩) 1 c2) [n]) := (X1.out.alloc _).grown hgrow (fun k e => by simp [Value.ownBlock] at e) hown3
         have e0 := X3.out.box.c0
         have e1 := X3.out.box.c1
         have e2 := X3.out.box.c2
         have e3 := X3.out.box.c3
         have ef := X3.out.box.fz
         have r0 := X3.out.res.c0
         have r1 := X3.out.res.c1
         have r2 := X3.out.res.c2
         have r3 := X3.out.res.c3
         have rf := X3.out.res.fz
         clear hown3 hgrow hat hlt)
      | fail)
    have HE := X3.out.ends (m := 0) (k := 0) rfl (Nat.le_refl _)
    refine bodyPost_ret_by (results_cell_row (by rfl) _ _ (w.heap.size + 1) _ _ _ _ rfl HE.1 Try.underlying47 rfl (by kernel_rfl)) rfl ⟨_, rfl, ?_, HE.2.2⟩
    have := HE.2.1
    rw [← HP.out]
    unfold pushR
    rw [show ([] : List Int).length + 1 - cap = 0 by simp; omega]
    exact this
  · rw [hm] at h1 hc hl ⊢
    have hp2 : ∀ j u, (ints beh)[j]? = some u → ((w.alloc (.cells #[.int .i64 (cap : Int), .slice (some ⟨b, off, none⟩) m c, .slice Aa na ca, .int .i64 run] 47)).alloc (.cells #[.int .i64 0, .slice none 0 0, .slice none 0 0, .int .i64 0] 47)).cell? ((⟨b, off, none⟩ : Addr).add j) = some u := by
      intro j u hj
      have hjm : j < m := by
        have := (List.getElem?_eq_some_iff.1 hj).1
        rw [ints_length, hm] at this
        exact this
      have hcj := (hc j hjm).2
      rw [ints_get beh j (by omega)] at hj
      injection hj with hj
      subst hj
      have hlt := World.block_lt_of_cell? w _ hcj
      have ha : (⟨b, off, none⟩ : Addr).add j = ⟨b, off + j, none⟩ := by unfold Addr.add; split <;> simp_all
      rw [ha, World.cell?_alloc_lt _ _ ⟨b, off + j, none⟩ (by have h2 : b < w.heap.size := hlt; show b < (w.alloc _).heap.size; simp; omega), World.cell?_alloc_lt w _ ⟨b, off + j, none⟩ hlt]
      exact hcj
    have HP2 := Lib.hid hp2
    have hil : (ints beh).length = m * 1 := by rw [ints_length, hm, Nat.mul_one]
    have HIL := Lib.hid hil
    rw [hm] at HS
    have k1 : (k : Int) ≤ (m : Int) + 1 := by omega
    have k2 : (0 : Int) ≤ (k : Int) := by omega
    clear hc hm hp2 hil hk3 hl
    go_enter Try.func40, Try.ntmps40
    go_wp2_with (first
      | (at_builtin
         refine wpList_append_own _ rfl (.tmp 6) (.tmp 8) 27 rfl (w.heap.size + 2) 3 i0 (.int .i64 0) 1 8 Try.underlying27 hi hz0 hz1 hz2 rfl (by decide) (.slice none 0 0) 0 [] rfl (World.ownsRow_nil _ _ _ _) ⟨b, off, none⟩ m c (ints beh) rfl HIL.out HP2.out (ints_one beh) (by unfold maxLen; omega) (by omega) (by simp) ?_
         intro v1 W1 hown1 hgrow1 hnil1
         have X1 : Aside (P1 w W1 cap (.slice (some ⟨b, off, none⟩) m c) (.slice Aa na ca) run v1 beh) := HS.out.grown hgrow1 (fun k e => by simp [Value.ownBlock] at e) (by rw [HM.out]; rw [Nat.zero_add, List.nil_append] at hown1; exact hown1)
         clear hown1 hgrow1 hnil1)
      | (at_builtin
         refine wpList_append_lies _ rfl (.tmp 10) (.tmp 12) 27 rfl (w.heap.size + 2) 3 i0 (.int .i64 0) 1 8 Try.underlying27 hi hz0 hz1 hz2 rfl (by decide) v1 m (ints beh) rfl (by have h := X1.out.own.alloc (.cells #[.int .i64 n] 3); rw [HM.out] at h; exact h) ⟨W1.heap.size, 0, none⟩ 1 1 [.int .i64 n] rfl rfl (cell_one_new _ _ _) (fun x hx => by simp at hx; subst hx; rfl) (by decide) (by unfold maxLen; omega) (by omega) (by have := X1.out.size; simp; omega) _ rfl ?_
         intro g c2 w3 hown3 hgrow hat hlt
         have X3 : Aside (P1 w w3 cap (.slice (some ⟨b, off, none⟩) m c) (.slice Aa na ca) run (.slice (some ⟨g, 0, none⟩) (m + 1) c2) (beh ++ [n])) := (X1.out.alloc _).grown hgrow (fun k e => (X1.out.own.lt k e).1) (by rw [List.length_append, HM.out, ints_append]; exact hown3)
         have hcap2 : m + 1 ≤ c2 ∧ c2 ≤ 9223372036854775807 := by
           rcases hown3.2 with ⟨h1, _⟩ | ⟨g', cap', cur, hv, hB, hh, hnc, hcm, _⟩
           · cases h1
           · injection hv with e1 e2 e3
             subst e3
             exact ⟨hnc, hcm⟩
         obtain ⟨hca, hcb⟩ := hcap2
         have hck : ¬ c2 = k := by omega
         have hca2 : (m : Int) + 1 ≤ (c2 : Int) := by omega
         have e0 := X3.out.box.c0
         have e1 := X3.out.box.c1
         have e2 := X3.out.box.c2
         have e3 := X3.out.box.c3
         have ef := X3.out.box.fz
         have r0 := X3.out.res.c0
         have r1 := X3.out.res.c1
         have r2 := X3.out.res.c2
         have r3 := X3.out.res.c3
         have rf := X3.out.res.fz
         clear hown3 hgrow hat hlt)
      | fail)
    have HE := X3.out.ends (m := m) (k := k) (by simp [HM.out]) hk2
    refine bodyPost_ret_by (results_cell_row (by rfl) _ _ (w.heap.size + 1) _ _ _ _ rfl HE.1 Try.underlying47 rfl (by kernel_rfl)) rfl ⟨_, rfl, ?_, HE.2.2⟩
    have h5 := HE.2.1
    rw [← HP.out]
    unfold pushR
    rw [HM.out, HK3.out]
    exact h5

end Go.Proofs.Ytilblnolfcbdlaa
