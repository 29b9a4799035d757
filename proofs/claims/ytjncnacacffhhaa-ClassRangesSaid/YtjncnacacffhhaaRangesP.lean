/-
  Plain: a class's ranges are the table's; how many of them hold a character.
-/
import Derived.Test.YtjncnacacffhhaaClassP
namespace Go.Proofs.Ytjncnacacffhhaa
open Go.RowKit

def wantL (k : Int) : List (Int × Int × Int) := tbl.filter fun r => r.2.2 == k
theorem wantL_rng (k : Int) (h0 : 0 ≤ k) (h1 : k < 15) : wantL k = tag k (rng k) := by
  have H : ∀ k : Fin 15, wantL (k.val : Int) = tag (k.val : Int) (rng (k.val : Int)) := by decide +kernel
  obtain ⟨n, rfl⟩ : ∃ n : Nat, k = (n : Int) := ⟨k.toNat, by omega⟩
  exact H ⟨n, by omega⟩
theorem rng_sorted (k : Int) (h0 : 0 ≤ k) (h1 : k < 15) : (rng k).Pairwise (fun a b => a.2 < b.1) ∧ ∀ r ∈ rng k, 0 ≤ r.1 ∧ r.1 ≤ r.2 ∧ r.2 ≤ 1000000 := by
  have H : ∀ k : Fin 15, (rng (k.val : Int)).Pairwise (fun a b => a.2 < b.1) ∧ ∀ r ∈ rng (k.val : Int), 0 ≤ r.1 ∧ r.1 ≤ r.2 ∧ r.2 ≤ 1000000 := by decide +kernel
  obtain ⟨n, rfl⟩ : ∃ n : Nat, k = (n : Int) := ⟨k.toNat, by omega⟩
  exact H ⟨n, by omega⟩

/-- How many ranges hold c. -/
def cnt (c : Int) (rs : List (Int × Int)) : Nat := (rs.filter (inR c)).length
theorem cnt_snoc (c : Int) (rs : List (Int × Int)) (k : Nat) (hk : k < rs.length) : cnt c (rs.take (k + 1)) = cnt c (rs.take k) + if inR c (rs.getD k (0, 0)) = true then 1 else 0 := by
  unfold cnt
  rw [List.take_succ_eq_append_getElem hk, List.filter_append, List.length_append]
  have e : rs.getD k (0, 0) = rs[k] := by simp [hk]
  rw [e]
  by_cases h : inR c rs[k] = true <;> simp [List.filter_cons, h]
theorem cnt_le (c : Int) (rs : List (Int × Int)) : cnt c rs ≤ rs.length := List.length_filter_le _ _
theorem cnt_pos (c : Int) : ∀ rs : List (Int × Int), 0 < cnt c rs ↔ rs.any (inR c) = true := by
  intro rs
  unfold cnt
  rw [List.length_pos_iff, Ne, List.filter_eq_nil_iff, List.any_eq_true]
  constructor
  · intro h
    apply Classical.byContradiction
    intro hn
    exact h (fun a ha hc => hn ⟨a, ha, hc⟩)
  · rintro ⟨a, ha, hc⟩ h
    exact h a ha hc
theorem cnt_one (c : Int) : ∀ rs : List (Int × Int), rs.Pairwise (fun a b => a.2 < b.1) → cnt c rs ≤ 1
  | [], _ => by simp [cnt]
  | r :: rs, h => by
    obtain ⟨h1, h2⟩ := List.pairwise_cons.1 h
    have ih := cnt_one c rs h2
    by_cases hr : inR c r = true
    · have e : rs.filter (inR c) = [] := by
        rw [List.filter_eq_nil_iff]
        intro b hb hc
        have := h1 b hb
        simp [inR] at hr hc
        omega
      simp [cnt, List.filter_cons, hr, e]
    · simpa [cnt, List.filter_cons, hr] using ih

theorem tbl_apart : tbl.Pairwise (fun a b => a.2.1 < b.1 ∨ b.2.1 < a.1) ∧ ∀ r ∈ tbl, r.2.1 < 44032 ∨ 55203 < r.1 := by decide +kernel
theorem findT_of (c : Int) : ∀ (t : List (Int × Int × Int)) (r : Int × Int × Int), t.Pairwise (fun a b => a.2.1 < b.1 ∨ b.2.1 < a.1) → r ∈ t → r.1 ≤ c → c ≤ r.2.1 → findT c t = r.2.2
  | [], r, _, hr, _, _ => by cases hr
  | a :: t, r, h, hr, h1, h2 => by
    obtain ⟨g1, g2⟩ := List.pairwise_cons.1 h
    show (if a.1 ≤ c ∧ c ≤ a.2.1 then a.2.2 else findT c t) = _
    rcases List.mem_cons.1 hr with rfl | hr
    · rw [if_pos ⟨h1, h2⟩]
    · have := g1 r hr
      rw [if_neg (by omega)]
      exact findT_of c t r g2 hr h1 h2
theorem findK_has (c : Int) : ∀ (f : Nat) (k : Int), findK c f k = 0 ∨ hasK (findK c f k) c = true
  | 0, _ => .inl rfl
  | f + 1, k => by
    unfold findK
    split
    · rename_i h; exact .inr h
    · exact findK_has c f (k + 1)

/-- A character is in one of a class's ranges just where it is of that class (and the class has a range). -/
theorem fin_eq (k c : Int) (h0 : 0 ≤ k) (h1 : k < 15) : decide (0 < cnt c (rng k)) = (decide (0 < (rng k).length) && (ofI c == k)) := by
  rw [Bool.eq_iff_iff]
  simp only [decide_eq_true_eq, Bool.and_eq_true, beq_iff_eq]
  rw [cnt_pos]
  constructor
  · intro h
    obtain ⟨r, hr, hc⟩ := List.any_eq_true.1 h
    have hin : (r.1, r.2, k) ∈ tbl := by
      have : (r.1, r.2, k) ∈ wantL k := by
        rw [wantL_rng k h0 h1]
        exact List.mem_map.2 ⟨r, hr, rfl⟩
      exact (List.mem_filter.1 this).1
    simp [inR] at hc
    have ha := tbl_apart.2 _ hin
    simp only at ha
    refine ⟨List.length_pos_of_mem hr, ?_⟩
    rw [ofI_ref, if_neg (by omega)]
    exact findT_of c tbl _ tbl_apart.1 hin hc.1 hc.2
  · rintro ⟨hl, ho⟩
    have hk : k ≠ 0 ∧ k ≠ 12 ∧ k ≠ 13 := by
      refine ⟨?_, ?_, ?_⟩ <;> (rintro rfl; exact absurd hl (by decide))
    unfold ofI at ho
    split at ho
    · split at ho <;> omega
    · rcases findK_has c 14 1 with h | h
      · omega
      · rw [ho] at h; exact h

end Go.Proofs.Ytjncnacacffhhaa
