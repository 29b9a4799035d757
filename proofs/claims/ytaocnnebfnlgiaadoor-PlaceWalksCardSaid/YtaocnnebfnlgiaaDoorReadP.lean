/-
  Plain: the reader of classes, and the document's rule, are one.
-/
import Derived.Test.YtaocnnebfnlgiaaDoorClassP
namespace Go.Proofs.YtaocnnebfnlgiaaDoor
open Go.RowKit

def brkB (k : Int) : Bool := decide (k = 1 ∨ k = 2 ∨ k = 3)
def hglB (a b : Int) : Bool :=
  if a = 9 then decide (b = 9 ∨ b = 10 ∨ b = 12 ∨ b = 13)
  else if a = 12 ∨ a = 10 then decide (b = 10 ∨ b = 11)
  else decide ((a = 13 ∨ a = 11) ∧ b = 11)

/-- What the reader keeps. -/
structure RS where
  any : Bool
  last : Int
  flags : Int
  picto : Bool
  linked : Bool
def rs0 : RS := ⟨false, 0, 0, false, false⟩
/-- Is one more joined? -/
def rIs (s : RS) (k : Int) : Bool :=
  if s.any = false then false
  else if s.last = 1 ∧ k = 2 then true
  else if brkB s.last = true ∨ brkB k = true then false
  else if hglB s.last k = true ∨ k = 4 ∨ k = 5 ∨ k = 8 ∨ s.last = 7 then true
  else if k = 14 then s.linked
  else if k = 6 then s.flags % 2 == 1
  else false
def rNext (s : RS) (k : Int) : RS :=
  ⟨true, k, if k = 6 then s.flags + 1 else 0, decide (k = 14) || (s.picto && decide (k = 4)), s.picto && decide (k = 5)⟩
/-- Behind these classes. -/
def rRun (ks : List Int) : RS := ks.foldl rNext rs0
theorem rRun_snoc (ks : List Int) (k : Int) : rRun (ks ++ [k]) = rNext (rRun ks) k := by simp [rRun]

/-- Regionals at a list's end (the list turned round). -/
def sixes : List Int → Nat
  | [] => 0
  | k :: r => if k = 6 then sixes r + 1 else 0
/-- A Picto, Extends, at the end (the list turned round). -/
def pict : List Int → Bool
  | [] => false
  | k :: r => if k = 4 then pict r else decide (k = 14)
/-- The document's rule: the classes ahead, turned round. -/
def joinR (r : List Int) (k : Int) : Bool :=
  match r with
  | [] => false
  | last :: r' =>
    if last = 1 ∧ k = 2 then true
    else if brkB last = true ∨ brkB k = true then false
    else if hglB last k = true ∨ k = 4 ∨ k = 5 ∨ k = 8 ∨ last = 7 then true
    else if last = 5 ∧ k = 14 then pict r'
    else decide (k = 6) && (sixes (last :: r') % 2 == 1)

theorem rRun_inv : ∀ r : List Int, (rRun r.reverse).any = !r.isEmpty ∧ (rRun r.reverse).flags = (sixes r : Int) ∧ (rRun r.reverse).picto = pict r ∧
    (∀ l r', r = l :: r' → (rRun r.reverse).last = l ∧ (rRun r.reverse).linked = (pict r' && decide (l = 5)))
  | [] => ⟨rfl, rfl, rfl, fun _ _ h => by cases h⟩
  | k :: r => by
    obtain ⟨h1, h2, h3, h4⟩ := rRun_inv r
    have e : (k :: r).reverse = r.reverse ++ [k] := by simp
    rw [e, rRun_snoc]
    refine ⟨rfl, ?_, ?_, ?_⟩
    · show (if k = 6 then (rRun r.reverse).flags + 1 else 0) = _
      unfold sixes
      split
      · rw [h2]; rfl
      · rfl
    · show (decide (k = 14) || ((rRun r.reverse).picto && decide (k = 4))) = _
      rw [h3]
      show _ = (if k = 4 then pict r else decide (k = 14))
      by_cases h : k = 4
      · subst h; simp
      · simp [h]
    · intro l r' hlr
      injection hlr with e1 e2
      subst e1; subst e2
      exact ⟨rfl, by show ((rRun r.reverse).picto && decide (k = 5)) = _; rw [h3]⟩

theorem rIs_join (r : List Int) (k : Int) : rIs (rRun r.reverse) k = joinR r k := by
  obtain ⟨h1, h2, h3, h4⟩ := rRun_inv r
  unfold rIs
  cases r with
  | nil => rw [h1]; rfl
  | cons last r' =>
    obtain ⟨h5, h6⟩ := h4 last r' rfl
    rw [h1, if_neg (by simp), h5, h6, h2]
    show _ = if last = 1 ∧ k = 2 then true else _
    by_cases c1 : last = 1 ∧ k = 2
    · rw [if_pos c1, if_pos c1]
    · rw [if_neg c1, if_neg c1]
      by_cases c2 : brkB last = true ∨ brkB k = true
      · rw [if_pos c2, if_pos c2]
      · rw [if_neg c2, if_neg c2]
        by_cases c3 : hglB last k = true ∨ k = 4 ∨ k = 5 ∨ k = 8 ∨ last = 7
        · rw [if_pos c3, if_pos c3]
        · rw [if_neg c3, if_neg c3]
          by_cases c4 : k = 14
          · rw [if_pos c4]
            by_cases c5 : last = 5
            · rw [if_pos ⟨c5, c4⟩]; simp [c5]
            · rw [if_neg (fun h => c5 h.1)]
              subst c4
              simp [c5]
          · rw [if_neg c4, if_neg (show ¬ (last = 5 ∧ k = 14) from fun h => c4 h.2)]
            by_cases c6 : k = 6
            · rw [if_pos c6]
              simp only [c6, decide_true, Bool.true_and]
              rw [Bool.eq_iff_iff]
              simp
              omega
            · rw [if_neg c6]
              simp [c6]

theorem sixes_le : ∀ r : List Int, sixes r ≤ r.length
  | [] => by simp [sixes]
  | k :: r => by
    have := sixes_le r
    unfold sixes
    split
    · simp; omega
    · simp
theorem rRun_flags (ks : List Int) : 0 ≤ (rRun ks).flags ∧ (rRun ks).flags ≤ ks.length := by
  have h := (rRun_inv ks.reverse).2.1
  rw [List.reverse_reverse] at h
  have h2 := sixes_le ks.reverse
  rw [List.length_reverse] at h2
  omega

end Go.Proofs.YtaocnnebfnlgiaaDoor
