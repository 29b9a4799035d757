/-
  Words for owned rows: kept over stores and growth elsewhere.
-/
import Derived.Test.YtilblnolfcbdlaaMem
import Derived.Deep.AppendLies
namespace Go.Proofs.Ytilblnolfcbdlaa
open Go.RowKit

theorem own_setCell' {w : World} {B : Nat} {e : TypeId} {size : Nat} {v : Value} {n : Nat} {xs : List Value} (h : w.ownsRow B e size v n xs) {p : Addr} (hp : v.ownBlock ≠ some p.block) (u : Value) : (w.setCell p u).ownsRow B e size v n xs := by
  obtain ⟨h1, h2⟩ := h
  refine ⟨h1, ?_⟩
  rcases h2 with h2 | ⟨g, cp, cur, rfl, hg, hh, hrest⟩
  · exact .inl h2
  · refine .inr ⟨g, cp, cur, rfl, hg, ?_, hrest⟩
    rw [Below.heap_setCell _ _ _ _ (fun e => hp (by rw [← e]; rfl))]; exact hh

theorem own_grown' {w w' : World} {B : Nat} {e : TypeId} {size : Nat} {v : Value} {n : Nat} {xs : List Value} {row : Option Nat} (h : w.ownsRow B e size v n xs) (hg : w.grownBy w' row) (hp : ∀ k, v.ownBlock = some k → row ≠ some k) : w'.ownsRow B e size v n xs := by
  obtain ⟨h1, h2⟩ := h
  refine ⟨h1, ?_⟩
  rcases h2 with h2 | ⟨g, cp, cur, rfl, hgB, hh, hrest⟩
  · exact .inl h2
  · refine .inr ⟨g, cp, cur, rfl, hgB, ?_, hrest⟩
    rw [hg.block g (Array.getElem?_eq_some_iff.1 hh).1 (fun e => hp g rfl e.symm)]; exact hh

theorem own_below {w w' : World} {B b : Nat} {e : TypeId} {size : Nat} {v : Value} {n : Nat} {xs : List Value} (h : w.ownsRow B e size v n xs) (hb : Below b w w') (hB : w.heap.size ≤ b) : w'.ownsRow B e size v n xs := by
  obtain ⟨h1, h2⟩ := h
  refine ⟨h1, ?_⟩
  rcases h2 with h2 | ⟨g, cp, cur, rfl, hgB, hh, hrest⟩
  · exact .inl h2
  · refine .inr ⟨g, cp, cur, rfl, hgB, ?_, hrest⟩
    rw [hb.block g (by have := (Array.getElem?_eq_some_iff.1 hh).1; omega)]; exact hh

/-- Two rows that share no block. -/
def Apart (v u : Value) : Prop := ∀ k, v.ownBlock = some k → u.ownBlock ≠ some k
theorem Apart.symm {v u : Value} (h : Apart v u) : Apart u v := fun k hk hv => h k hv hk
theorem Apart.nil_left (u : Value) : Apart (.slice none 0 0) u := fun k hk => by simp [Value.ownBlock] at hk
/-- Behind an append of v: its new block is its old one, or new. -/
theorem Apart.lies {w : World} {v u : Value} {g n c H : Nat} {B : Nat} {e : TypeId} {size m : Nat} {xs : List Value} (h : Apart v u) (hu : w.ownsRow B e size u m xs) (hat : v.ownBlock = some g ∨ g = H) (hH : w.heap.size ≤ H) : Apart (.slice (some ⟨g, 0, none⟩) n c) u := by
  intro k hk hu'
  have hk' : g = k := by simpa [Value.ownBlock] using hk
  subst hk'
  rcases hat with hv | rfl
  · exact h g hv hu'
  · have := (hu.lt _ hu').2
    omega

end Go.Proofs.Ytilblnolfcbdlaa
