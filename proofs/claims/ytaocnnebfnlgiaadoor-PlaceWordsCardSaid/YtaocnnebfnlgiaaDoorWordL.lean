/-
  Plain Lean: going on to the right and to the left as long as it is so; where a word ends.
-/
namespace Go.Proofs.YtaocnnebfnlgiaaDoor

/-- To the right, with fuel. -/
def goRf (f : Nat → Bool) (n : Nat) (want : Bool) : Nat → Nat → Nat
  | 0, i => i
  | k + 1, i => if i < n ∧ f i = want then goRf f n want k (i + 1) else i
/-- To the right. -/
def goR (f : Nat → Bool) (n : Nat) (want : Bool) (i : Nat) : Nat := goRf f n want (n - i) i
/-- To the left. -/
def goL (f : Nat → Bool) (want : Bool) : Nat → Nat
  | 0 => 0
  | i + 1 => if f i = want then goL f want i else i + 1

theorem goR_yes (f : Nat → Bool) (n : Nat) (want : Bool) (i : Nat) (hi : i < n) (h : f i = want) : goR f n want i = goR f n want (i + 1) := by
  unfold goR
  obtain ⟨k, hk⟩ : ∃ k, n - i = k + 1 := ⟨n - i - 1, by omega⟩
  have hk2 : n - (i + 1) = k := by omega
  rw [hk, hk2]
  show (if i < n ∧ f i = want then goRf f n want k (i + 1) else i) = _
  rw [if_pos ⟨hi, h⟩]
theorem goR_no (f : Nat → Bool) (n : Nat) (want : Bool) (i : Nat) (h : f i ≠ want) : goR f n want i = i := by
  unfold goR
  cases n - i with
  | zero => rfl
  | succ k =>
    show (if i < n ∧ f i = want then goRf f n want k (i + 1) else i) = _
    rw [if_neg (fun hh => h hh.2)]
theorem goR_end (f : Nat → Bool) (n : Nat) (want : Bool) (i : Nat) (h : ¬ i < n) : goR f n want i = i := by
  unfold goR
  have : n - i = 0 := by omega
  rw [this]; rfl
theorem goRf_bd (f : Nat → Bool) (n : Nat) (want : Bool) : ∀ k i, i ≤ n → i ≤ goRf f n want k i ∧ goRf f n want k i ≤ n
  | 0, i, h => ⟨Nat.le_refl _, h⟩
  | k + 1, i, h => by
    show i ≤ (if i < n ∧ f i = want then goRf f n want k (i + 1) else i) ∧ (if i < n ∧ f i = want then goRf f n want k (i + 1) else i) ≤ n
    by_cases hh : i < n ∧ f i = want
    · rw [if_pos hh]
      have := goRf_bd f n want k (i + 1) (by omega)
      omega
    · rw [if_neg hh]; omega
theorem goR_bd (f : Nat → Bool) (n : Nat) (want : Bool) (i : Nat) (h : i ≤ n) : i ≤ goR f n want i ∧ goR f n want i ≤ n := goRf_bd f n want _ i h
theorem goL_le (f : Nat → Bool) (want : Bool) : ∀ i, goL f want i ≤ i
  | 0 => Nat.le_refl _
  | i + 1 => by
    show (if f i = want then goL f want i else i + 1) ≤ i + 1
    have := goL_le f want i
    split <;> omega
theorem goL_yes (f : Nat → Bool) (want : Bool) (i : Nat) (h : f i = want) : goL f want (i + 1) = goL f want i := by
  show (if f i = want then goL f want i else i + 1) = _
  rw [if_pos h]
theorem goL_no (f : Nat → Bool) (want : Bool) (i : Nat) (h : f i ≠ want) : goL f want (i + 1) = i + 1 := by
  show (if f i = want then goL f want i else i + 1) = _
  rw [if_neg h]

/-- Where a word ends. -/
def wordR (f : Nat → Bool) (n i : Nat) : Nat := goR f n false (goR f n true i)
def wordL (f : Nat → Bool) (i : Nat) : Nat := goL f false (goL f true i)
theorem wordR_bd (f : Nat → Bool) (n i : Nat) (h : i ≤ n) : i ≤ wordR f n i ∧ wordR f n i ≤ n := by
  have h1 := goR_bd f n true i h
  have h2 := goR_bd f n false (goR f n true i) h1.2
  unfold wordR
  omega
theorem wordR_far (f : Nat → Bool) (n i : Nat) (h : i < n) : i < wordR f n i := by
  unfold wordR
  cases hf : f i with
  | true =>
    rw [goR_yes f n true i h hf]
    have h1 := goR_bd f n true (i + 1) (by omega)
    have h2 := goR_bd f n false (goR f n true (i + 1)) h1.2
    omega
  | false =>
    rw [goR_no f n true i (by rw [hf]; decide), goR_yes f n false i h hf]
    have h1 := goR_bd f n false (i + 1) (by omega)
    omega
theorem wordL_le (f : Nat → Bool) (i : Nat) : wordL f i ≤ i := by
  have h1 := goL_le f true i
  have h2 := goL_le f false (goL f true i)
  unfold wordL
  omega
theorem wordL_far (f : Nat → Bool) (i : Nat) (h : 0 < i) : wordL f i < i := by
  obtain ⟨j, rfl⟩ : ∃ j, i = j + 1 := ⟨i - 1, by omega⟩
  unfold wordL
  cases hf : f j with
  | true =>
    rw [goL_yes f true j hf]
    have h1 := goL_le f true j
    have h2 := goL_le f false (goL f true j)
    omega
  | false =>
    rw [goL_no f true j (by rw [hf]; decide), goL_yes f false j hf]
    have := goL_le f false j
    omega

/-- A number, made one that is there. -/
def clampN (i : Int) (n : Nat) : Nat := (min (max i 0) (n : Int)).toNat
theorem clampN_le (i : Int) (n : Nat) : clampN i n ≤ n := by unfold clampN; omega
theorem clampN_eq (i : Int) (n : Nat) : (clampN i n : Int) = min (max i 0) (n : Int) := by unfold clampN; omega
theorem clampN_self (i n : Nat) (h : i ≤ n) : clampN (i : Int) n = i := by unfold clampN; omega
def wordN (f : Nat → Bool) (n : Nat) (i : Int) (right : Bool) : Nat := if right = true then wordR f n (clampN i n) else wordL f (clampN i n)

end Go.Proofs.YtaocnnebfnlgiaaDoor
