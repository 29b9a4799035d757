/-
  Contracts: Split of the program's clusters.
-/
import Derived.Test.YtaocnnebfnlgiaaDoorClu2
import Derived.Test.YtaocnnebfnlgiaaDoorStrs
import Derived.Test.YtaocnnebfnlgiaaDoorCharsL
import Derived.Deep.RegionHeld3
import Derived.Deep.AppendLies
namespace Go.Proofs.YtaocnnebfnlgiaaDoor
open Go.RowKit

/-- Places rise strictly, from q, below n. -/
def Rise : List Int → Int → Prop
  | [], _ => True
  | x :: xs, q => q ≤ x ∧ Rise xs (x + 1)
theorem Rise.low : ∀ (xs : List Int) {p q : Int}, Rise xs q → p ≤ q → Rise xs p
  | [], _, _, _, _ => trivial
  | _ :: _, _, _, h, hp => ⟨Int.le_trans hp h.1, h.2⟩
theorem starts_rise (s : ByteArray) : ∀ f p, Rise (startsFrom s f p) p
  | 0, _ => trivial
  | f + 1, p => by
    by_cases h : p < s.size
    · rw [startsFrom_step s f p h]
      have hw := decode_ge1 (s.data.toList.drop p)
      rw [Lib.decodeL_drop] at hw
      exact ⟨Int.le_refl _, (starts_rise s f _).low _ (by omega)⟩
    · rw [startsFrom_end s _ p h]; trivial
theorem starts_lt (s : ByteArray) : ∀ f p, ∀ x ∈ startsFrom s f p, x < s.size
  | 0, _, _, h => by cases h
  | f + 1, p, x, hx => by
    by_cases h : p < s.size
    · rw [startsFrom_step s f p h] at hx
      rcases List.mem_cons.1 hx with rfl | hx
      · omega
      · exact starts_lt s f _ x hx
    · rw [startsFrom_end s _ p h] at hx; cases hx
theorem startsC_rise : ∀ (cs ps : List Int) (s : RS) (q : Int), Rise ps q → Rise (startsC s cs ps) q
  | [], _, _, _, _ => trivial
  | _ :: _, [], _, _, _ => trivial
  | c :: cs, p :: ps, s, q, h => by
    have ih := startsC_rise cs ps (rNext s (ofI c)) (p + 1) h.2
    unfold startsC
    split
    · exact ih.low _ (by have := h.1; omega)
    · exact ⟨h.1, ih⟩
theorem startsC_mem : ∀ (cs ps : List Int) (s : RS), ∀ x ∈ startsC s cs ps, x ∈ ps
  | [], _, _, _, h => by cases h
  | _ :: _, [], _, _, h => by cases h
  | c :: cs, p :: ps, s, x, h => by
    unfold startsC at h
    rcases List.mem_append.1 h with h | h
    · split at h
      · cases h
      · rw [List.mem_singleton.1 h]; exact List.mem_cons_self ..
    · exact List.mem_cons_of_mem _ (startsC_mem cs ps _ x h)
theorem rise_snoc : ∀ (xs : List Int) (q n : Int), Rise xs q → (∀ x ∈ xs, x < n) → q ≤ n → Rise (xs ++ [n]) q
  | [], _, _, _, _, h => ⟨h, trivial⟩
  | x :: xs, q, n, h, hm, _ => ⟨h.1, rise_snoc xs _ n h.2 (fun y hy => hm y (List.mem_cons_of_mem _ hy)) (by have := hm x (List.mem_cons_self ..); omega)⟩
theorem cstarts_rise (s : ByteArray) : Rise (cstarts s) 0 :=
  rise_snoc _ _ _ (startsC_rise _ _ _ _ (starts_rise s _ 0)) (fun x hx => starts_lt s _ _ x (startsC_mem _ _ _ x hx)) (by omega)
theorem rise_at : ∀ (xs : List Int) (q : Int) (j : Nat), Rise xs q → j < xs.length → q + j ≤ xs.getD j 0
  | [], _, _, _, h => absurd h (by simp)
  | x :: xs, q, 0, h, _ => by simpa using h.1
  | x :: xs, q, j + 1, h, hj => by
    have ih := rise_at xs (x + 1) j h.2 (by simpa using hj)
    have := h.1
    simp only [List.getD_cons_succ]
    push_cast
    omega
theorem rise_step : ∀ (xs : List Int) (q : Int) (j : Nat), Rise xs q → j + 1 < xs.length → xs.getD j 0 < xs.getD (j + 1) 0
  | [], _, _, _, h => absurd h (by simp)
  | x :: xs, q, 0, h, hj => by
    have ih := rise_at xs (x + 1) 0 h.2 (by simpa using hj)
    simp only [List.getD_cons_succ, List.getD_cons_zero]
    omega
  | x :: xs, q, j + 1, h, hj => by
    have ih := rise_step xs (x + 1) j h.2 (by simpa using hj)
    simpa only [List.getD_cons_succ] using ih
theorem cstarts_mem (s : ByteArray) (j : Nat) (hj : j < (cstarts s).length) : (cstarts s).getD j 0 ≤ s.size := by
  have e : (cstarts s).getD j 0 = (cstarts s)[j] := by simp [hj]
  rw [e]
  have hm := List.getElem_mem hj
  obtain ⟨x, hx⟩ : ∃ x, (cstarts s)[j] = x := ⟨_, rfl⟩
  rw [hx] at hm ⊢
  unfold cstarts at hm
  rcases List.mem_append.1 hm with h | h
  · have := starts_lt s _ _ x (startsC_mem _ _ _ x h)
    omega
  · rw [List.mem_singleton.1 h]; omega
theorem cstarts_two (s : ByteArray) (j : Nat) (hj : j < clen s) : 0 ≤ (cstarts s).getD j 0 ∧ (cstarts s).getD j 0 < (cstarts s).getD (j + 1) 0 ∧ (cstarts s).getD (j + 1) 0 ≤ s.size := by
  have hl := cstarts_len s
  have h1 := rise_at _ 0 j (cstarts_rise s) (by omega)
  have h2 := rise_step _ 0 j (cstarts_rise s) (by omega)
  have h3 := cstarts_mem s (j + 1) (by omega)
  omega

theorem wrap_in (x : Int) (h0 : -9223372036854775808 ≤ x) (h1 : x ≤ 9223372036854775807) : IntKind.i64.wrap x = x := by
  simp [IntKind.wrap, IntKind.bits, IntKind.signed]
  omega

/-- The pieces between places. -/
def piecesK (s : ByteArray) (l : List Int) (k : Nat) : List ByteArray := (List.range k).map fun j => s.extract (l.getD j 0).toNat (l.getD (j + 1) 0).toNat
def pieces (s : ByteArray) : List ByteArray := piecesK s (cstarts s) (clen s)
theorem piecesK_succ (s : ByteArray) (l : List Int) (k : Nat) : piecesK s l (k + 1) = piecesK s l k ++ [s.extract (l.getD k 0).toNat (l.getD (k + 1) 0).toNat] := by
  unfold piecesK
  rw [List.range_succ, List.map_append]
  rfl
theorem piecesK_len (s : ByteArray) (l : List Int) (k : Nat) : (piecesK s l k).length = k := by simp [piecesK]
theorem pieces_len (s : ByteArray) : (pieces s).length = clen s := piecesK_len _ _ _


end Go.Proofs.YtaocnnebfnlgiaaDoor
