/-
  Plain Lean: of a rising list, how many of its elements stand ahead of a number, and the numbers nearest to it.
-/
import Derived.Test.YtaocnnebfnlgiaaDoorSplit
namespace Go.Proofs.YtaocnnebfnlgiaaDoor

/-- How many are below. -/
def ltN (l : List Int) (x : Int) : Nat := l.countP (· < x)
/-- How many are not above. -/
def leN (l : List Int) (x : Int) : Nat := l.countP (· ≤ x)
def floorI (l : List Int) (x : Int) : Int := ((leN l x - 1 : Nat) : Int)
def ceilI (l : List Int) (x : Int) : Int := ((min (ltN l x) (l.length - 1) : Nat) : Int)
def indexI (l : List Int) (x : Int) : Int := if l.contains x = true then ((ltN l x : Nat) : Int) else -1

/-- Rising. -/
def Up (l : List Int) : Prop := l.Pairwise (· < ·)
theorem rise_ge : ∀ (l : List Int) (q : Int), Rise l q → ∀ x ∈ l, q ≤ x
  | [], _, _, _, h => by cases h
  | y :: l, q, h, x, hx => by
    rcases List.mem_cons.1 hx with rfl | hx
    · exact h.1
    · have := rise_ge l _ h.2 x hx; have := h.1; omega
theorem up_of_rise : ∀ (l : List Int) (q : Int), Rise l q → Up l
  | [], _, _ => .nil
  | y :: l, q, h => .cons (fun x hx => by have := rise_ge l _ h.2 x hx; omega) (up_of_rise l _ h.2)
theorem up_cstarts (s : ByteArray) : Up (cstarts s) := up_of_rise _ _ (cstarts_rise s)

theorem up_lt {l : List Int} (h : Up l) (i j : Nat) (hij : i < j) (hj : j < l.length) : l.getD i 0 < l.getD j 0 := by
  have := List.pairwise_iff_getElem.1 h i j (by omega) hj hij
  simpa [List.getD_eq_getElem?_getD, hj, (by omega : i < l.length)] using this
theorem up_le {l : List Int} (h : Up l) (i j : Nat) (hij : i ≤ j) (hj : j < l.length) : l.getD i 0 ≤ l.getD j 0 := by
  rcases Nat.lt_or_ge i j with h1 | h1
  · exact Int.le_of_lt (up_lt h i j h1 hj)
  · obtain rfl : i = j := by omega
    exact Int.le_refl _

theorem take_succ_get (l : List Int) (k : Nat) (h : k < l.length) : l.take (k + 1) = l.take k ++ [l.getD k 0] := by
  rw [List.take_succ_eq_append_getElem h]
  simp [h]

theorem count_all (l : List Int) (p : Int → Bool) (h : ∀ j, j < l.length → p (l.getD j 0) = true) : l.countP p = l.length := by
  rw [List.countP_eq_length]
  intro a ha
  obtain ⟨j, hj, rfl⟩ := List.getElem_of_mem ha
  have := h j hj
  simpa [hj] using this
theorem count_none (l : List Int) (p : Int → Bool) (h : ∀ j, j < l.length → p (l.getD j 0) = false) : l.countP p = 0 := by
  rw [List.countP_eq_zero]
  intro a ha
  obtain ⟨j, hj, rfl⟩ := List.getElem_of_mem ha
  have := h j hj
  simp [hj] at this
  simp [this]
theorem count_split (l : List Int) (p : Int → Bool) (k : Nat) (hk : k ≤ l.length) (h1 : ∀ j, j < k → p (l.getD j 0) = true) (h2 : ∀ j, k ≤ j → j < l.length → p (l.getD j 0) = false) : l.countP p = k := by
  have e : l = l.take k ++ l.drop k := (List.take_append_drop k l).symm
  rw [e, List.countP_append, count_all (l.take k) p, count_none (l.drop k) p]
  · simp; omega
  · intro j hj
    have hj' : k + j < l.length := by simp at hj; omega
    have := h2 (k + j) (by omega) hj'
    simpa [List.getD_eq_getElem?_getD, List.getElem?_drop] using this
  · intro j hj
    have hj' : j < k := by simp at hj; omega
    have := h1 j hj'
    simpa [List.getD_eq_getElem?_getD, List.getElem?_take, hj'] using this

theorem ltN_le (l : List Int) (x : Int) : ltN l x ≤ l.length := List.countP_le_length
theorem leN_le (l : List Int) (x : Int) : leN l x ≤ l.length := List.countP_le_length

/-- The last one that is not above, found by going from the first to the last. -/
theorem floor_step {l : List Int} (h : Up l) (k : Nat) (hk : k < l.length) (x : Int) (hx : l.getD k 0 ≤ x) : floorI (l.take (k + 1)) x = (k : Int) := by
  unfold floorI
  have : leN (l.take (k + 1)) x = k + 1 := by
    unfold leN
    rw [count_all]
    · simp; omega
    · intro j hj
      have hj' : j < k + 1 := by simp at hj; omega
      have := up_le h j k (by omega) hk
      have e : (l.take (k + 1)).getD j 0 = l.getD j 0 := by simp [List.getD_eq_getElem?_getD, List.getElem?_take, hj']
      rw [e]; exact decide_eq_true (by omega)
  rw [this]; simp
theorem floor_stay (l : List Int) (k : Nat) (hk : k < l.length) (x : Int) (hx : x < l.getD k 0) : floorI (l.take (k + 1)) x = floorI (l.take k) x := by
  unfold floorI leN
  rw [take_succ_get l k hk, List.countP_append]
  have : List.countP (fun y => decide (y ≤ x)) [l.getD k 0] = 0 := by
    rw [List.countP_eq_zero]; intro a ha
    rw [List.mem_singleton.1 ha]; exact fun hh => absurd (of_decide_eq_true hh) (by omega)
  rw [this]; simp
theorem floor_nil (x : Int) : floorI [] x = 0 := rfl
theorem floorI_bd (l : List Int) (x : Int) : 0 ≤ floorI l x ∧ floorI l x ≤ l.length := by
  have := leN_le l x
  unfold floorI
  omega

/-- The first one that is not below. -/
theorem lt_at {l : List Int} (h : Up l) (k : Nat) (hk : k < l.length) (x : Int) (h1 : ∀ j, j < k → l.getD j 0 < x) (h2 : x ≤ l.getD k 0) : ltN l x = k := by
  unfold ltN
  refine count_split l _ k (by omega) (fun j hj => by have := h1 j hj; simpa using this) (fun j hj hl => ?_)
  have := up_le h k j hj hl
  exact decide_eq_false (by omega)
theorem lt_all (l : List Int) (x : Int) (h1 : ∀ j, j < l.length → l.getD j 0 < x) : ltN l x = l.length :=
  count_all l _ (fun j hj => by have := h1 j hj; simpa using this)
theorem ceil_at {l : List Int} (h : Up l) (k : Nat) (hk : k < l.length) (x : Int) (h1 : ∀ j, j < k → l.getD j 0 < x) (h2 : x ≤ l.getD k 0) : ceilI l x = (k : Int) := by
  unfold ceilI
  rw [lt_at h k hk x h1 h2]
  congr 1
  omega
theorem ceil_end (l : List Int) (x : Int) (h1 : ∀ j, j < l.length → l.getD j 0 < x) : ceilI l x = ((l.length - 1 : Nat) : Int) := by
  unfold ceilI
  rw [lt_all l x h1]
  congr 1
  omega
theorem has_at (l : List Int) (k : Nat) (hk : k < l.length) (x : Int) (h : l.getD k 0 = x) : l.contains x = true := by
  subst h
  simp [hk]
theorem index_at {l : List Int} (h : Up l) (k : Nat) (hk : k < l.length) (x : Int) (hx : l.getD k 0 = x) : indexI l x = (k : Int) := by
  unfold indexI
  rw [if_pos (has_at l k hk x hx), lt_at h k hk x (fun j hj => by rw [← hx]; exact up_lt h j k hj hk) (by omega)]
theorem hasnt (l : List Int) (x : Int) (h1 : ∀ j, j < l.length → l.getD j 0 ≠ x) : l.contains x = false := by
  cases h : l.contains x with
  | false => rfl
  | true =>
    exfalso
    have hm : x ∈ l := by simpa using h
    obtain ⟨j, hj, e⟩ := List.getElem_of_mem hm
    exact h1 j hj (by simpa [hj] using e)
theorem index_end (l : List Int) (x : Int) (h1 : ∀ j, j < l.length → l.getD j 0 ≠ x) : indexI l x = -1 := by
  unfold indexI
  rw [hasnt l x h1]
  rfl
theorem indexI_bd (l : List Int) (x : Int) : -1 ≤ indexI l x ∧ indexI l x ≤ l.length := by
  have := ltN_le l x
  unfold indexI
  split <;> omega

/-- How many are not above: one more where it is there. -/
theorem leN_up : ∀ {l : List Int} (_ : Up l) (x : Int), leN l x = ltN l x + (if l.contains x = true then 1 else 0)
  | [], _, _ => rfl
  | y :: l, h, x => by
    have ih := leN_up (List.pairwise_cons.1 h).2 x
    have hy := (List.pairwise_cons.1 h).1
    unfold leN ltN at *
    rw [List.countP_cons, List.countP_cons, ih]
    by_cases e : y = x
    · subst e
      have : l.contains y = false := by
        cases hc : l.contains y with
        | false => rfl
        | true => have := hy y (by simpa using hc); omega
      simp [this]
      have hn : ¬ y ∈ l := fun hm => by have := hy y hm; omega
      simp [hn]
    · have e2 : (x == y) = false := by simp; omega
      have e3 : (decide (y ≤ x)) = decide (y < x) := by rw [Bool.eq_iff_iff]; simp; omega
      rw [List.contains_cons, e2, e3, Bool.false_or]
      omega
theorem floor_yes {l : List Int} (h : Up l) (x : Int) (hc : l.contains x = true) : floorI l x = ((ltN l x : Nat) : Int) := by
  unfold floorI
  rw [leN_up h x, if_pos hc]
  simp
theorem floor_no {l : List Int} (h : Up l) (x : Int) (hc : l.contains x = false) : floorI l x = ((ltN l x - 1 : Nat) : Int) := by
  unfold floorI
  rw [leN_up h x, hc]
  simp
theorem lt_of_has {l : List Int} (x : Int) (hc : l.contains x = true) : ltN l x < l.length := by
  unfold ltN
  rcases Nat.lt_or_ge (l.countP (· < x)) l.length with h | h
  · exact h
  · exfalso
    have h2 : l.countP (· < x) = l.length := Nat.le_antisymm List.countP_le_length h
    have := List.countP_eq_length.1 h2 x (by simpa using hc)
    simp at this

end Go.Proofs.YtaocnnebfnlgiaaDoor
