/-
  Plain: the clusters of a plain text.
-/
import Derived.Test.YtaocnnebfnlgiaaGroups
import Derived.Test.YtaocnnebfnlgiaaPlainC
namespace Go.Proofs.Ytaocnnebfnlgiaa
open Go.RowKit

/-- One of the class Other, then Extends. -/
def OkG (g : List Int) : Prop := ∃ c r, g = c :: r ∧ ofI c = 0 ∧ ∀ x ∈ r, ofI x = 4
def count0 (l : List Int) : Nat := (l.filter fun c => ofI c == 0).length
theorem count0_snoc (l : List Int) (c : Int) : count0 (l ++ [c]) = count0 l + (if ofI c = 0 then 1 else 0) := by
  unfold count0
  rw [List.filter_append, List.length_append]
  by_cases h : ofI c = 0
  · simp [h]
  · simp [h]
theorem count0_le (l : List Int) : count0 l ≤ l.length := List.length_filter_le _ _
def InP (s : RS) : Prop := s.any = true ∧ (s.last = 0 ∨ s.last = 4)
theorem inP_next (s : RS) (k : Int) (h : k = 0 ∨ k = 4) : InP (rNext s k) := ⟨rfl, h⟩
theorem inP_ext (s : RS) (h : InP s) : rIs s 4 = true := by
  obtain ⟨h1, h2⟩ := h
  have hb : brkB s.last = false := by rcases h2 with h | h <;> (rw [h]; rfl)
  have e1 : ¬ (s.last = 1 ∧ (4 : Int) = 2) := by omega
  have e2 : ¬ (brkB s.last = true ∨ brkB 4 = true) := by rw [hb]; decide
  unfold rIs
  rw [if_neg (by rw [h1]; simp), if_neg e1, if_neg e2, if_pos (.inr (.inl rfl))]
theorem inP_other (s : RS) (h : InP s) : rIs s 0 = false := rIs_other s (by rcases h.2 with h | h <;> omega)
theorem grp_ok : ∀ (cs : List Int) (s : RS) (acc : List Int), InP s → (∀ c ∈ cs, ofI c = 0 ∨ ofI c = 4) → OkG acc → (∀ g ∈ grp s cs acc, OkG g) ∧ (grp s cs acc).length = 1 + count0 cs
  | [], s, acc, _, _, ha => by
    refine ⟨fun g hg => ?_, rfl⟩
    rw [show grp s [] acc = [acc] from rfl] at hg
    rw [List.mem_singleton.1 hg]; exact ha
  | c :: cs, s, acc, hs, hc, ha => by
    have hcc := hc c (List.mem_cons_self ..)
    have hcr := fun d hd => hc d (List.mem_cons_of_mem _ hd)
    rcases hcc with h0 | h4
    · have e : grp s (c :: cs) acc = acc :: grp (rNext s (ofI c)) cs [c] := by
        show (if rIs s (ofI c) = true then _ else _) = _
        rw [h0, inP_other s hs, if_neg (by simp)]
      obtain ⟨i1, i2⟩ := grp_ok cs (rNext s (ofI c)) [c] (inP_next s _ (.inl h0)) hcr ⟨c, [], rfl, h0, fun x hx => by cases hx⟩
      rw [e]
      refine ⟨fun g hg => ?_, ?_⟩
      · rcases List.mem_cons.1 hg with rfl | hg
        · exact ha
        · exact i1 g hg
      · rw [List.length_cons, i2]
        unfold count0
        simp [h0]
        omega
    · have e : grp s (c :: cs) acc = grp (rNext s (ofI c)) cs (acc ++ [c]) := by
        show (if rIs s (ofI c) = true then _ else _) = _
        rw [h4, inP_ext s hs, if_pos rfl]
      obtain ⟨a, r, rfl, ha0, har⟩ := ha
      obtain ⟨i1, i2⟩ := grp_ok cs (rNext s (ofI c)) ((a :: r) ++ [c]) (inP_next s _ (.inr h4)) hcr ⟨a, r ++ [c], rfl, ha0, fun x hx => by
        rcases List.mem_append.1 hx with hx | hx
        · exact har x hx
        · rw [List.mem_singleton.1 hx]; exact h4⟩
      rw [e]
      refine ⟨i1, ?_⟩
      rw [i2]
      unfold count0
      simp [h4]
theorem groups_ok (cs : List Int) (h0 : cs = [] ∨ ofI (cs.getD 0 0) = 0) (hc : ∀ c ∈ cs, ofI c = 0 ∨ ofI c = 4) : (∀ g ∈ groups cs, OkG g) ∧ (groups cs).length = count0 cs := by
  cases cs with
  | nil => exact ⟨fun g hg => (by cases hg), rfl⟩
  | cons c cs =>
    have hc0 : ofI c = 0 := by
      rcases h0 with h | h
      · cases h
      · exact h
    obtain ⟨i1, i2⟩ := grp_ok cs (rNext rs0 (ofI c)) [c] (inP_next _ _ (.inl hc0)) (fun d hd => hc d (List.mem_cons_of_mem _ hd)) ⟨c, [], rfl, hc0, fun x hx => by cases hx⟩
    refine ⟨i1, ?_⟩
    show (grp (rNext rs0 (ofI c)) cs [c]).length = _
    rw [i2]
    unfold count0
    simp [hc0]
    omega
theorem ext_count : ∀ (r : List Int) (s : RS), InP s → (∀ x ∈ r, ofI x = 4) → countK s (r.map ofI) = 0
  | [], _, _, _ => rfl
  | x :: r, s, hs, h => by
    have hx := h x (List.mem_cons_self ..)
    have ih := ext_count r (rNext s (ofI x)) (inP_next s _ (.inr hx)) (fun d hd => h d (List.mem_cons_of_mem _ hd))
    show (if rIs s (ofI x) = true then 0 else 1) + countK (rNext s (ofI x)) (r.map ofI) = 0
    rw [ih, hx, inP_ext s hs]
    rfl
theorem okG_count (g : List Int) (h : OkG g) : countK rs0 (g.map ofI) = 1 := by
  obtain ⟨c, r, rfl, h0, h4⟩ := h
  have h := ext_count r (rNext rs0 (ofI c)) (inP_next _ _ (.inl h0)) h4
  show (if rIs rs0 (ofI c) = true then 0 else 1) + countK (rNext rs0 (ofI c)) (r.map ofI) = 1
  rw [h]
  rfl
theorem okG_plain (g : List Int) (h : OkG g) : plainB g = true := by
  obtain ⟨c, r, rfl, h0, h4⟩ := h
  rw [plain_yes]
  · simp
  · intro j hj
    unfold plainAt
    cases j with
    | zero =>
      have e : (c :: r).getD 0 0 = c := rfl
      rw [e, h0]; rfl
    | succ j =>
      have hj' : j < r.length := by simpa using hj
      have e : (c :: r).getD (j + 1) 0 = r[j] := by simp [hj']
      rw [e, h4 _ (List.getElem_mem hj')]
      simp
theorem grp_mem : ∀ (cs : List Int) (s : RS) (acc g : List Int), g ∈ grp s cs acc → ∀ x ∈ g, x ∈ acc ∨ x ∈ cs
  | [], s, acc, g, hg, x, hx => by
    rw [show grp s [] acc = [acc] from rfl] at hg
    rw [List.mem_singleton.1 hg] at hx
    exact .inl hx
  | c :: cs, s, acc, g, hg, x, hx => by
    have e : grp s (c :: cs) acc = if rIs s (ofI c) = true then grp (rNext s (ofI c)) cs (acc ++ [c]) else acc :: grp (rNext s (ofI c)) cs [c] := rfl
    rw [e] at hg
    split at hg
    · rcases grp_mem cs _ _ g hg x hx with h | h
      · rcases List.mem_append.1 h with h | h
        · exact .inl h
        · rw [List.mem_singleton.1 h]; exact .inr (List.mem_cons_self ..)
      · exact .inr (List.mem_cons_of_mem _ h)
    · rcases List.mem_cons.1 hg with rfl | hg
      · exact .inl hx
      · rcases grp_mem cs _ _ g hg x hx with h | h
        · rw [List.mem_singleton.1 h]; exact .inr (List.mem_cons_self ..)
        · exact .inr (List.mem_cons_of_mem _ h)
theorem groups_mem (cs g : List Int) (hg : g ∈ groups cs) : ∀ x ∈ g, x ∈ cs := by
  intro x hx
  cases cs with
  | nil => cases hg
  | cons c cs =>
    rcases grp_mem cs _ _ g hg x hx with h | h
    · rw [List.mem_singleton.1 h]; exact List.mem_cons_self ..
    · exact List.mem_cons_of_mem _ h

/-- Each piece of a plain text is plain, and is one cluster; there are as many as characters of the class Other. -/
theorem plain_pieces (cs : List Int) (h0 : cs = [] ∨ ofI (cs.getD 0 0) = 0) (hc : ∀ c ∈ cs, ofI c = 0 ∨ ofI c = 4) (hm : ∀ c ∈ cs, mayB c = true) :
    (pieces (toText cs)).length = count0 cs ∧ ∀ P ∈ pieces (toText cs), plainB (chars P) = true ∧ clen P = 1 := by
  obtain ⟨h1, h2⟩ := groups_ok cs h0 hc
  rw [pieces_groups cs hm]
  refine ⟨by rw [List.length_map, h2], fun P hP => ?_⟩
  obtain ⟨g, hg, rfl⟩ := List.mem_map.1 hP
  have hgm : ∀ x ∈ g, mayB x = true := fun x hx => hm x (groups_mem cs g hg x hx)
  have e1 : chars (toText g) = g := chars_join' g hgm
  have e2 : clen (toText g) = countK rs0 (g.map ofI) := clen_join' g hgm
  rw [e1, e2]
  exact ⟨okG_plain g (h1 g hg), okG_count g (h1 g hg)⟩

end Go.Proofs.Ytaocnnebfnlgiaa
