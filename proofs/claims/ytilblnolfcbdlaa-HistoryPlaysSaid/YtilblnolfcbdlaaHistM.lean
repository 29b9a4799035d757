/-
  Words for the histories in memory: one block of four cells, two rows of ints; what a call leaves alone. Contracts of pop, empty, push and Break.
-/
import Derived.Test.YtilblnolfcbdlaaMem
import Derived.Test.YtilblnolfcbdlaaRows
import Derived.Test.YtilblnolfcbdlaaShelf
import Derived.Deep.AppendLies
import Derived.Deep.QuietTactic
import Derived.BigQuiet
import Derived.Lib.SliceRun
namespace Go.Proofs.Ytilblnolfcbdlaa
open Go.RowKit

theorem info_int2 : (Try.prog.info? 3).map (fun i => (i.zero, i.size, i.bytes)) = some (some (.int .i64 0), 1, 8) := by kernel_rfl

/-- What lay in a block below b, or in one of X's, is as it was. -/
structure Fr (X : Nat → Prop) (b : Nat) (w w' : World) : Prop where
  os : w'.os = w.os
  tape : w'.tape = w.tape
  output : w'.output = w.output
  size : w.heap.size ≤ w'.heap.size
  block : ∀ k, k < w.heap.size → (k < b ∨ X k) → w'.heap[k]? = w.heap[k]?

section
variable {X : Nat → Prop} {b : Nat} {w w' w'' : World}
theorem Fr.refl (X : Nat → Prop) (b : Nat) (w : World) : Fr X b w w := ⟨rfl, rfl, rfl, Nat.le_refl _, fun _ _ _ => rfl⟩
theorem Fr.trans (h : Fr X b w w') (k : Fr X b w' w'') : Fr X b w w'' :=
  ⟨k.os.trans h.os, k.tape.trans h.tape, k.output.trans h.output, Nat.le_trans h.size k.size, fun j hj hx => (k.block j (Nat.lt_of_lt_of_le hj h.size) hx).trans (h.block j hj hx)⟩
theorem Fr.drewN (h : Fr X b w w') (n : Nat) : Fr X b w (w'.drewN n) := ⟨h.os, h.tape, h.output, h.size, h.block⟩
theorem Fr.alloc (h : Fr X b w w') (o : Obj) : Fr X b w (w'.alloc o) :=
  ⟨h.os, h.tape, h.output, Nat.le_trans h.size (by simp), fun j hj hx => (Below.heap_alloc _ _ _ (Nat.lt_of_lt_of_le hj h.size)).trans (h.block j hj hx)⟩
theorem Fr.setCell (h : Fr X b w w') {p : Addr} (hp : b ≤ p.block) (hX : ¬ X p.block) (u : Value) : Fr X b w (w'.setCell p u) :=
  ⟨h.os, h.tape, h.output, Nat.le_trans h.size (by simp [World.setCell]), fun j hj hx => (Below.heap_setCell _ _ _ _ (by rintro rfl; rcases hx with hx | hx; omega; exact hX hx)).trans (h.block j hj hx)⟩
theorem Fr.grown (h : Fr X b w w') {row : Option Nat} (hg : w'.grownBy w'' row) (hr : ∀ k, row = some k → b ≤ k ∧ ¬ X k) : Fr X b w w'' :=
  ⟨hg.os.trans h.os, hg.tape.trans h.tape, hg.output.trans h.output, Nat.le_trans h.size hg.size, fun j hj hx =>
    (hg.block j (Nat.lt_of_lt_of_le hj h.size) (by
      intro e
      have := hr j e.symm
      rcases hx with hx | hx
      · omega
      · exact this.2 hx)).trans (h.block j hj hx)⟩
theorem Fr.below (h : Fr X b w w') (hb : b ≤ w.heap.size) : Below b w w' := ⟨h.os, h.tape, h.output, h.size, fun k hk => h.block k (by omega) (.inl hk)⟩
theorem Fr.mono {X' : Nat → Prop} (h : Fr X b w w') (hX : ∀ k, X' k → X k) : Fr X' b w w' := ⟨h.os, h.tape, h.output, h.size, fun k hk hx => h.block k hk (hx.imp id (hX k))⟩
theorem Fr.own (h : Fr X b w w') {B : Nat} {e : TypeId} {size : Nat} {v : Value} {n : Nat} {xs : List Value} (ho : w.ownsRow B e size v n xs) (hv : ∀ g, v.ownBlock = some g → g < b ∨ X g) : w'.ownsRow B e size v n xs := by
  obtain ⟨h1, h2⟩ := ho
  refine ⟨h1, ?_⟩
  rcases h2 with h2 | ⟨g, cap, cur, rfl, hg, hh, hrest⟩
  · exact .inl h2
  · have hlt : g < w.heap.size := (Array.getElem?_eq_some_iff.1 hh).1
    exact .inr ⟨g, cap, cur, rfl, hg, (h.block g hlt (hv g rfl)).trans hh, hrest⟩
end

theorem setCells_heap (g : Nat) : ∀ (vs : List Value) (o : Nat) (w : World) (k : Nat), k ≠ g → (w.setCells g o vs).heap[k]? = w.heap[k]?
  | [], _, _, _, _ => rfl
  | v :: vs, o, w, k, hk => by
    show ((w.setCell ⟨g, o, none⟩ v).setCells g (o + 1) vs).heap[k]? = _
    rw [setCells_heap g vs (o + 1) _ k hk]
    exact Below.heap_setCell _ _ _ _ hk
theorem setCells_rest (g : Nat) : ∀ (vs : List Value) (o : Nat) (w : World), (w.setCells g o vs).os = w.os ∧ (w.setCells g o vs).tape = w.tape ∧ (w.setCells g o vs).output = w.output ∧ (w.setCells g o vs).heap.size = w.heap.size
  | [], _, _ => ⟨rfl, rfl, rfl, rfl⟩
  | v :: vs, o, w => by
    have h := setCells_rest g vs (o + 1) (w.setCell ⟨g, o, none⟩ v)
    exact ⟨h.1, h.2.1, h.2.2.1, h.2.2.2.trans (by simp [World.setCell])⟩
theorem heap_set (w : World) (g i : Nat) (v : Value) (cs : Array Value) (t : TypeId) (fz : Nat × Nat) (h : w.heap[g]? = some (.cells cs t fz)) : (w.setCell ⟨g, i, none⟩ v).heap[g]? = some (.cells (cs.setIfInBounds i v) t fz) := by
  simp [World.setCell, Array.getElem?_modify, h]
theorem setCells_block (g : Nat) (t : TypeId) (fz : Nat × Nat) : ∀ (vs : List Value) (o : Nat) (w : World) (cs : Array Value), w.heap[g]? = some (.cells cs t fz) → ∃ cs', cs'.size = cs.size ∧ (w.setCells g o vs).heap[g]? = some (.cells cs' t fz)
  | [], _, _, cs, h => ⟨cs, rfl, h⟩
  | v :: vs, o, w, cs, h => by
    obtain ⟨cs', h1, h2⟩ := setCells_block g t fz vs (o + 1) (w.setCell ⟨g, o, none⟩ v) _ (heap_set w g o v cs t fz h)
    exact ⟨cs', by rw [h1]; simp, h2⟩
theorem Fr.setCells {X : Nat → Prop} {b : Nat} {w w' : World} (h : Fr X b w w') {g : Nat} (hp : b ≤ g) (hX : ¬ X g) (o : Nat) (vs : List Value) : Fr X b w (w'.setCells g o vs) := by
  have r := setCells_rest g vs o w'
  exact ⟨r.1.trans h.os, r.2.1.trans h.tape, r.2.2.1.trans h.output, by rw [r.2.2.2]; exact h.size, fun j hj hx => (setCells_heap g vs o w' j (by rintro rfl; rcases hx with hx | hx; omega; exact hX hx)).trans (h.block j hj hx)⟩

/-- A row out of its cells. -/
theorem own_mk {w : World} {B g cap : Nat} {e : TypeId} {cur : Array Value} {xs : List Value} (hB : B ≤ g) (hg : w.heap[g]? = some (.cells cur e (0, 0))) (hs : cur.size = cap) (hcap : cap ≤ maxLen) (hn : xs.length ≤ cap)
    (hc : ∀ j, j < xs.length → w.cell? ⟨g, j, none⟩ = xs[j]?) : w.ownsRow B e 1 (.slice (some ⟨g, 0, none⟩) xs.length cap) xs.length xs := by
  refine ⟨by simp, .inr ⟨g, cap, cur, rfl, hB, hg, hn, hcap, by simpa using hs, ?_⟩⟩
  apply List.ext_getElem?
  intro j
  rw [List.getElem?_take, Nat.mul_one]
  split
  · rename_i hj
    rw [← hc j hj, cell_of_row w g j cur e (0, 0) hg]; simp
  · rename_i hj
    rw [List.getElem?_eq_none (by omega)]

theorem clear_zero (w : World) (ty : TypeId) (A : Option Addr) (c : Nat) : (Builtin.clear_ #[27] ty #[.slice A 0 c]).run Try.prog w = .ok (.tuple #[]) w := by
  cases A <;> simp [Builtin.clear_, run_underlying Try.underlying27]

section
variable (w : World)

set_option maxHeartbeats 400000 in
theorem pop_none (b i : Nat) (A : Option Addr) (c : Nat) (hc : w.cell? ⟨b, i, none⟩ = some (.slice A 0 c)) :
    Calls Try.prog 33 #[.pointer (some ⟨b, i, none⟩)] w fun e w' => e = .returned (.tuple #[.int .i64 0, .bool false]) ∧ w = w' := by
  go_enter Try.func33, Try.ntmps33
  go_wp2
  go_ret2
  exact ⟨rfl, rfl⟩

set_option maxHeartbeats 400000 in
theorem pop_some (b i g cap n : Nat) (x : Int) (hc : w.cell? ⟨b, i, none⟩ = some (.slice (some ⟨g, 0, none⟩) (n + 1) cap)) (hx : w.cell? ⟨g, n, none⟩ = some (.int .i64 x))
    (hf1 : w.frozen? ⟨b, i, none⟩ = false) (hf2 : w.frozen? ⟨g, n, none⟩ = false) (hne : ¬ g = b) (hn : n + 1 ≤ cap) (hcap : cap ≤ 9223372036854775807) :
    Calls Try.prog 33 #[.pointer (some ⟨b, i, none⟩)] w fun e w' => e = .returned (.tuple #[.int .i64 x, .bool true]) ∧ (w.setCell ⟨g, n, none⟩ (.int .i64 0)).setCell ⟨b, i, none⟩ (.slice (some ⟨g, 0, none⟩) n cap) = w' := by
  have hne' : ¬ b = g := fun e => hne e.symm
  go_enter Try.func33, Try.ntmps33
  go_wp2
  go_ret2
  exact ⟨rfl, rfl⟩

set_option maxHeartbeats 400000 in
theorem empty_nil (b i : Nat) (hc : w.cell? ⟨b, i, none⟩ = some (.slice none 0 0)) (hf : w.frozen? ⟨b, i, none⟩ = false) :
    Calls Try.prog 32 #[.pointer (some ⟨b, i, none⟩)] w fun e w' => e = .returned (.tuple #[]) ∧ w.setCell ⟨b, i, none⟩ (.slice none 0 0) = w' := by
  have hcl := fun ty => clear_zero w ty none 0
  go_enter Try.func32, Try.ntmps32
  go_wp2
  go_end0
  exact ⟨rfl, rfl⟩

set_option maxHeartbeats 400000 in
theorem empty_zero (b i g cap : Nat) (hc : w.cell? ⟨b, i, none⟩ = some (.slice (some ⟨g, 0, none⟩) 0 cap)) (hf : w.frozen? ⟨b, i, none⟩ = false) (hcap : cap ≤ 9223372036854775807) :
    Calls Try.prog 32 #[.pointer (some ⟨b, i, none⟩)] w fun e w' => e = .returned (.tuple #[]) ∧ w.setCell ⟨b, i, none⟩ (.slice (some ⟨g, 0, none⟩) 0 cap) = w' := by
  have hcl := fun ty => clear_zero w ty (some ⟨g, 0, none⟩) cap
  go_enter Try.func32, Try.ntmps32
  go_wp2
  go_end0
  exact ⟨rfl, rfl⟩

set_option maxHeartbeats 400000 in
theorem empty_pos (b i g cap n : Nat) (hc : w.cell? ⟨b, i, none⟩ = some (.slice (some ⟨g, 0, none⟩) n cap)) (hf : w.frozen? ⟨b, i, none⟩ = false) (hn : 0 < n) (hnc : n ≤ cap) (hcap : cap ≤ 9223372036854775807) (hne : ¬ b = g)
    (hcs : ∀ j, j < n → (w.cell? ⟨g, 0 + j, none⟩).isSome = true) (hfs : ∀ j, j < n → w.frozen? ⟨g, 0 + j, none⟩ = false) :
    Calls Try.prog 32 #[.pointer (some ⟨b, i, none⟩)] w fun e w' => e = .returned (.tuple #[]) ∧ (w.setCells g 0 (List.replicate n (.int .i64 0))).setCell ⟨b, i, none⟩ (.slice (some ⟨g, 0, none⟩) 0 cap) = w' := by
  have hcl := fun ty => Lib.run_clear_slice (P := Try.prog) w 27 3 ty (.int .i64 0) Try.underlying27 (fun _ => by kernel_rfl) rfl rfl g 0 n cap hn hcs hfs
  have hc2 : (w.setCells g 0 (List.replicate n (.int .i64 0))).cell? ⟨b, i, none⟩ = some (.slice (some ⟨g, 0, none⟩) n cap) := by
    rw [World.cell?_setCells_out g _ 0 w ⟨b, i, none⟩ (fun h => absurd h hne)]; exact hc
  have hf2 : (w.setCells g 0 (List.replicate n (.int .i64 0))).frozen? ⟨b, i, none⟩ = false := by
    rw [World.frozen?_setCells]; exact hf
  obtain ⟨W2, hW2⟩ : ∃ W2, w.setCells g 0 (List.replicate n (.int .i64 0)) = W2 := ⟨_, rfl⟩
  rw [hW2] at hc2 hf2 hcl ⊢
  clear hW2 hcs hfs
  go_enter Try.func32, Try.ntmps32
  go_wp2
  go_end0
  exact ⟨rfl, rfl⟩

set_option maxHeartbeats 400000 in
theorem break_any (b : Nat) (r : Int) (hc : w.cell? ⟨b, 3, none⟩ = some (.int .i64 r)) (hf : w.frozen? ⟨b, 3, none⟩ = false) :
    Calls Try.prog 18 #[.pointer (some ⟨b, 0, none⟩)] w fun e w' => e = .returned (.tuple #[]) ∧ w.setCell ⟨b, 3, none⟩ (.int .i64 0) = w' := by
  go_enter Try.func18, Try.ntmps18
  go_wp2
  go_end0
  exact ⟨rfl, rfl⟩

end

end Go.Proofs.Ytilblnolfcbdlaa
