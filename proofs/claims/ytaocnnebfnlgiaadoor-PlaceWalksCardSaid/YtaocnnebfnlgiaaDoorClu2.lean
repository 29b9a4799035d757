/-
  Contracts: Len, One; the layer's example. Plain: how many clusters.
-/
import Derived.Test.YtaocnnebfnlgiaaDoorClu1
import Derived.Test.YtaocnnebfnlgiaaDoorSame
namespace Go.Proofs.YtaocnnebfnlgiaaDoor
open Go.RowKit

/-- How many clusters, of classes. -/
def countK : RS → List Int → Nat
  | _, [] => 0
  | s, k :: ks => (if rIs s k = true then 0 else 1) + countK (rNext s k) ks
theorem startsC_count : ∀ (cs ps : List Int) (s : RS), cs.length = ps.length → (startsC s cs ps).length = countK s (cs.map ofI)
  | [], [], _, _ => rfl
  | c :: cs, p :: ps, s, h => by
    have ih := startsC_count cs ps (rNext s (ofI c)) (by simpa using h)
    show ((if rIs s (ofI c) = true then [] else [p]) ++ startsC (rNext s (ofI c)) cs ps).length = (if rIs s (ofI c) = true then 0 else 1) + countK (rNext s (ofI c)) (cs.map ofI)
    rw [List.length_append, ih]
    split <;> rfl
def clen (s : ByteArray) : Nat := countK rs0 ((chars s).map ofI)
theorem cstarts_len (s : ByteArray) : (cstarts s).length = clen s + 1 := by
  unfold cstarts clen
  rw [List.length_append, startsC_count _ _ _ (chars_len s)]
  rfl
theorem countK_le : ∀ (ks : List Int) (s : RS), countK s ks ≤ ks.length
  | [], _ => by simp [countK]
  | k :: ks, s => by
    have ih := countK_le ks (rNext s k)
    unfold countK
    split <;> (simp; omega)
theorem clen_le (s : ByteArray) : clen s ≤ s.size := by
  have h := countK_le ((chars s).map ofI) rs0
  rw [List.length_map] at h
  have := chars_len_le s
  unfold clen
  omega
theorem countK_app : ∀ (a b : List Int) (s : RS), countK s (a ++ b) = countK s a + countK (a.foldl rNext s) b
  | [], b, s => by simp [countK]
  | k :: a, b, s => by
    have ih := countK_app a b (rNext s k)
    show (if rIs s k = true then 0 else 1) + countK (rNext s k) (a ++ b) = ((if rIs s k = true then 0 else 1) + countK (rNext s k) a) + _
    rw [ih]
    show _ = _ + countK (a.foldl rNext (rNext s k)) b
    omega



theorem three_new' (w : World) (a b c : Int) (t : TypeId) : IsInts (w.alloc (.cells #[.int .i64 a, .int .i64 b, .int .i64 c] t)) (.slice (some ⟨w.heap.size, 0, none⟩) 3 3) [a, b, c] :=
  ⟨_, _, rfl, by simp, by omega, fun _ => ⟨_, _, rfl, fun j hj => by
    simp at hj
    have : j = 0 ∨ j = 1 ∨ j = 2 := by omega
    rcases this with rfl | rfl | rfl <;> simp [World.cell?_alloc_new]⟩⟩

theorem ex_starts : cstarts ⟨#[101, 204, 129, 120]⟩ = [0, 3, 4] := by decide +kernel


end Go.Proofs.YtaocnnebfnlgiaaDoor
