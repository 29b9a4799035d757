/-
  A history in memory, and the contracts of its methods.
-/
import Derived.Test.YtilblnolfcbdlaaHistM
namespace Go.Proofs.Ytilblnolfcbdlaa
open Go.RowKit

/-- A history: its block holds cap, the row behind, the row ahead, run; both rows are its own, and none is of X's. -/
structure HistV (w : World) (X : Nat → Prop) (b cap : Nat) (vb va : Value) (beh ah : List Int) (run : Int) : Prop where
  blk : w.heap[b]? = some (.cells #[.int .i64 (cap : Int), vb, va, .int .i64 run] 62 (0, 0))
  nb : ¬ X b
  ob : w.ownsRow b 3 1 vb beh.length (ints beh)
  oa : w.ownsRow b 3 1 va ah.length (ints ah)
  xb : ∀ k, vb.ownBlock = some k → ¬ X k
  xa : ∀ k, va.ownBlock = some k → ¬ X k ∧ vb.ownBlock ≠ some k

def Hist (w : World) (X : Nat → Prop) (b cap : Nat) (beh ah : List Int) (run : Int) : Prop := ∃ vb va, HistV w X b cap vb va beh ah run

section
variable {w w' : World} {X : Nat → Prop} {b cap : Nat} {vb va : Value} {beh ah : List Int} {run : Int}

theorem row_ne {B : Nat} {v : Value} {n : Nat} {xs : List Value} {cs : Array Value} {fz : Nat × Nat} (h : w.ownsRow B 3 1 v n xs) (hb : w.heap[b]? = some (.cells cs 62 fz)) : ∀ k, v.ownBlock = some k → k ≠ b := by
  intro k hk e
  subst e
  rcases h.2 with ⟨rfl, _⟩ | ⟨g, cp, cur, rfl, _, hg, _⟩
  · simp [Value.ownBlock] at hk
  · have : g = k := by simpa [Value.ownBlock] using hk
    subst this
    rw [hg] at hb
    injection hb with hb
    injection hb with _ ht
    exact absurd ht (by decide)

theorem own_setCell {B : Nat} {e : TypeId} {size : Nat} {v : Value} {n : Nat} {xs : List Value} (h : w.ownsRow B e size v n xs) {p : Addr} (hp : v.ownBlock ≠ some p.block) (u : Value) : (w.setCell p u).ownsRow B e size v n xs := by
  obtain ⟨h1, h2⟩ := h
  refine ⟨h1, ?_⟩
  rcases h2 with h2 | ⟨g, cp, cur, rfl, hg, hh, hrest⟩
  · exact .inl h2
  · refine .inr ⟨g, cp, cur, rfl, hg, ?_, hrest⟩
    rw [Below.heap_setCell _ _ _ _ (fun e => hp (by rw [← e]; rfl))]; exact hh

theorem own_grown {B : Nat} {e : TypeId} {size : Nat} {v : Value} {n : Nat} {xs : List Value} {row : Option Nat} (h : w.ownsRow B e size v n xs) (hg : w.grownBy w' row) (hp : ∀ k, v.ownBlock = some k → row ≠ some k) : w'.ownsRow B e size v n xs := by
  obtain ⟨h1, h2⟩ := h
  refine ⟨h1, ?_⟩
  rcases h2 with h2 | ⟨g, cp, cur, rfl, hgB, hh, hrest⟩
  · exact .inl h2
  · refine .inr ⟨g, cp, cur, rfl, hgB, ?_, hrest⟩
    rw [hg.block g (Array.getElem?_eq_some_iff.1 hh).1 (fun e => hp g rfl e.symm)]; exact hh

theorem HistV.lt (h : HistV w X b cap vb va beh ah run) : b < w.heap.size := (Array.getElem?_eq_some_iff.1 h.blk).1
theorem HistV.c0 (h : HistV w X b cap vb va beh ah run) : w.cell? ⟨b, 0, none⟩ = some (.int .i64 (cap : Int)) := by rw [cell_of_row w b 0 _ _ _ h.blk]; rfl
theorem HistV.c1 (h : HistV w X b cap vb va beh ah run) : w.cell? ⟨b, 1, none⟩ = some vb := by rw [cell_of_row w b 1 _ _ _ h.blk]; rfl
theorem HistV.c2 (h : HistV w X b cap vb va beh ah run) : w.cell? ⟨b, 2, none⟩ = some va := by rw [cell_of_row w b 2 _ _ _ h.blk]; rfl
theorem HistV.c3 (h : HistV w X b cap vb va beh ah run) : w.cell? ⟨b, 3, none⟩ = some (.int .i64 run) := by rw [cell_of_row w b 3 _ _ _ h.blk]; rfl
theorem frz_of_blk {cs : Array Value} {t : TypeId} (h : w.heap[b]? = some (.cells cs t (0, 0))) (i : Nat) : w.frozen? ⟨b, i, none⟩ = false := by simp [World.frozen?, h]
theorem HistV.frz (h : HistV w X b cap vb va beh ah run) (i : Nat) : w.frozen? ⟨b, i, none⟩ = false := frz_of_blk h.blk i

/-- A new row behind is stored. -/
theorem HistV.setB {vb0 vb1 : Value} {beh1 : List Int} (hblk : w.heap[b]? = some (.cells #[.int .i64 (cap : Int), vb0, va, .int .i64 run] 62 (0, 0))) (nb : ¬ X b)
    (ob : w.ownsRow b 3 1 vb1 beh1.length (ints beh1)) (oa : w.ownsRow b 3 1 va ah.length (ints ah)) (xb : ∀ k, vb1.ownBlock = some k → ¬ X k) (xa : ∀ k, va.ownBlock = some k → ¬ X k ∧ vb1.ownBlock ≠ some k) :
    HistV (w.setCell ⟨b, 1, none⟩ vb1) X b cap vb1 va beh1 ah run :=
  ⟨heap_set w b 1 vb1 _ _ _ hblk, nb, own_setCell ob (fun e => row_ne ob hblk _ e rfl) _, own_setCell oa (fun e => row_ne oa hblk _ e rfl) _, xb, xa⟩
/-- A new row ahead is stored. -/
theorem HistV.setA {va0 va1 : Value} {ah1 : List Int} (hblk : w.heap[b]? = some (.cells #[.int .i64 (cap : Int), vb, va0, .int .i64 run] 62 (0, 0))) (nb : ¬ X b)
    (ob : w.ownsRow b 3 1 vb beh.length (ints beh)) (oa : w.ownsRow b 3 1 va1 ah1.length (ints ah1)) (xb : ∀ k, vb.ownBlock = some k → ¬ X k) (xa : ∀ k, va1.ownBlock = some k → ¬ X k ∧ vb.ownBlock ≠ some k) :
    HistV (w.setCell ⟨b, 2, none⟩ va1) X b cap vb va1 beh ah1 run :=
  ⟨heap_set w b 2 va1 _ _ _ hblk, nb, own_setCell ob (fun e => row_ne ob hblk _ e rfl) _, own_setCell oa (fun e => row_ne oa hblk _ e rfl) _, xb, xa⟩
theorem HistV.setR (h : HistV w X b cap vb va beh ah run) (r : Int) : HistV (w.setCell ⟨b, 3, none⟩ (.int .i64 r)) X b cap vb va beh ah r :=
  ⟨heap_set w b 3 _ _ _ _ h.blk, h.nb, own_setCell h.ob (fun e => row_ne h.ob h.blk _ e rfl) _, own_setCell h.oa (fun e => row_ne h.oa h.blk _ e rfl) _, h.xb, h.xa⟩
theorem HistV.drewN (h : HistV w X b cap vb va beh ah run) (n : Nat) : HistV (w.drewN n) X b cap vb va beh ah run := ⟨h.blk, h.nb, h.ob, h.oa, h.xb, h.xa⟩
theorem HistV.alloc (h : HistV w X b cap vb va beh ah run) (o : Obj) : HistV (w.alloc o) X b cap vb va beh ah run :=
  ⟨(Below.heap_alloc _ _ _ h.lt).trans h.blk, h.nb, h.ob.alloc o, h.oa.alloc o, h.xb, h.xa⟩
/-- What others write keeps a history. -/
theorem HistV.keep (h : HistV w X b cap vb va beh ah run) (hk : ∀ k, k < w.heap.size → ¬ X k → w'.heap[k]? = w.heap[k]?) : HistV w' X b cap vb va beh ah run := by
  have f : ∀ {v : Value} {n : Nat} {xs : List Value}, w.ownsRow b 3 1 v n xs → (∀ k, v.ownBlock = some k → ¬ X k) → w'.ownsRow b 3 1 v n xs := by
    intro v n xs ⟨h1, h2⟩ hx
    refine ⟨h1, ?_⟩
    rcases h2 with h2 | ⟨g, cp, cur, rfl, hgB, hh, hrest⟩
    · exact .inl h2
    · exact .inr ⟨g, cp, cur, rfl, hgB, (hk g (Array.getElem?_eq_some_iff.1 hh).1 (hx g rfl)).trans hh, hrest⟩
  exact ⟨(hk b h.lt h.nb).trans h.blk, h.nb, f h.ob h.xb, f h.oa (fun k e => (h.xa k e).1), h.xb, h.xa⟩
theorem HistV.more {X' : Nat → Prop} (h : HistV w X b cap vb va beh ah run) (hX : ∀ k, k < w.heap.size → X' k → X k) : HistV w X' b cap vb va beh ah run :=
  ⟨h.blk, fun hx => h.nb (hX b h.lt hx), h.ob, h.oa, fun k e hx => h.xb k e (hX k (h.ob.lt k e).2 hx), fun k e => ⟨fun hx => (h.xa k e).1 (hX k (h.oa.lt k e).2 hx), (h.xa k e).2⟩⟩
end

def pushL (cap : Nat) (beh : List Int) (s : Int) : List Int := if cap < beh.length + 1 then (beh ++ [s]).drop 1 else beh ++ [s]

theorem getD_int (l : List Int) (j : Nat) (h : j < l.length) : l.getD j 0 = l[j] := by simp [h]

/-- slices.Delete(s, 0, 1) on a row of one's own. -/
theorem del_any (B g c n : Nat) (zs : List Int) (w : World) (hn : zs.length = n) (h0 : 0 < n) (hown : w.ownsRow B 3 1 (.slice (some ⟨g, 0, none⟩) n c) zs.length (ints zs)) :
    Calls Try.prog 39 #[.slice (some ⟨g, 0, none⟩) n c, .int .i64 0, .int .i64 1] w fun e w' =>
      e = .returned (.slice (some ⟨g, 0, none⟩) (n - 1) c) ∧ w'.ownsRow B 3 1 (.slice (some ⟨g, 0, none⟩) (n - 1) c) (zs.drop 1).length (ints (zs.drop 1)) ∧ w.grownBy w' (some g) := by
  subst hn
  rcases hown.2 with ⟨h, _⟩ | ⟨g', cap', cur, hv, hB, hg, hnc, hcm, hsz, _⟩
  · cases h
  injection hv with hv1 hv2 hv3
  injection hv1 with hv1
  injection hv1 with hv1
  subst hv1; subst hv3
  have hcell : ∀ j, j < zs.length → w.cell? ⟨g, 0 + j, none⟩ = some (.int .i64 (zs.getD j 0)) := by
    intro j hj
    rw [Nat.zero_add, hown.cellAt j (by omega), ints_get zs j hj]
  have hm : c ≤ 9223372036854775807 := hcm
  refine (Try.slices_Delete_int_cells g 0 zs.length c 0 1 zs w (Nat.le_refl _) hnc hm (by omega) (by omega) hcell (fun j _ => frz_of_blk hg _)).mono ?_
  rintro e w' ⟨rfl, q, rfl⟩
  obtain ⟨vs, hvs⟩ : ∃ vs, (List.take 0 (List.take zs.length zs) ++ List.drop 1 (List.take zs.length zs) ++ List.replicate (1 - 0) 0).map (Value.int .i64) = vs := ⟨_, rfl⟩
  have hvl : vs.length = zs.length := by rw [← hvs]; simp; omega
  have hvi : ∀ j, j < (zs.drop 1).length → vs[j]? = (ints (zs.drop 1))[j]? := by
    intro j hj
    rw [← hvs]
    simp only [List.take_zero, List.nil_append, List.take_length, List.map_append]
    rw [List.getElem?_append_left (by simpa using hj)]
    rfl
  rw [hvs]
  have hdl : (zs.drop 1).length = zs.length - 1 := by simp
  refine ⟨rfl, ?_, ?_⟩
  · obtain ⟨cs', h1, h2⟩ := setCells_block g 3 (0, 0) vs 0 (w.drewN q) cur hg
    have hk := own_mk (w := (w.drewN q).setCells g 0 vs) (B := B) (cap := c) (xs := ints (zs.drop 1)) hB h2 (by rw [h1]; simpa using hsz) hcm (by rw [ints_length, hdl]; omega) (by
      intro j hj
      rw [ints_length] at hj
      have := World.cell?_setCells_in g vs 0 (w.drewN q) (by
        intro j hj
        rw [World.cell?_drewN, hcell j (by omega)]; rfl) j (by omega)
      rw [Nat.zero_add] at this
      rw [this, ← hvi j hj]
      simp [hvl])
    rw [ints_length] at hk
    rw [← hdl]
    exact hk
  · have r := setCells_rest g vs 0 (w.drewN q)
    exact ⟨r.1, r.2.1, r.2.2.1, by rw [r.2.2.2]; exact Nat.le_refl _, fun k hk hne => setCells_heap g vs 0 (w.drewN q) k (fun e => hne (by rw [e]))⟩

end Go.Proofs.Ytilblnolfcbdlaa
