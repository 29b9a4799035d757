/-
  Plain: the clusters of a text that is characters joined.
-/
import Derived.Test.YtaocnnebfnlgiaaSplit
import Derived.Test.YtaocnnebfnlgiaaCharsL
namespace Go.Proofs.Ytaocnnebfnlgiaa
open Go.Lib

theorem clen_join' (l : List Int) (h : ∀ c ∈ l, mayB c = true) : clen ⟨(joinL l).toArray⟩ = countK rs0 (l.map ofI) := by
  unfold clen
  rw [chars_L]
  simp only [List.toList_toArray]
  rw [charsL_join0, map_orSpoilt l h]
theorem chars_join' (l : List Int) (h : ∀ c ∈ l, mayB c = true) : chars ⟨(joinL l).toArray⟩ = l := by
  rw [chars_L]
  simp only [List.toList_toArray]
  rw [charsL_join0, map_orSpoilt l h]
theorem joinL_cons (c : Int) (l : List Int) : joinL (c :: l) = encodeRune (orSpoilt c) ++ joinL l := by simp [joinL]
theorem joinL_app (a b : List Int) : joinL (a ++ b) = joinL a ++ joinL b := by simp [joinL]
theorem joinL_one (c : Int) : joinL [c] = encodeRune (orSpoilt c) := by simp [joinL]

def posFrom : Nat → List Int → List Int
  | _, [] => []
  | p, c :: cs => (p : Int) :: posFrom (p + (encodeRune (orSpoilt c)).length) cs
theorem posFrom_len : ∀ (cs : List Int) (p : Nat), (posFrom p cs).length = cs.length
  | [], _ => rfl
  | _ :: cs, _ => by simp [posFrom, posFrom_len cs]
theorem starts_join (T : ByteArray) : ∀ (cs : List Int) (f p : Nat), T.data.toList.drop p = joinL cs → (joinL cs).length ≤ f → startsFrom T f p = posFrom p cs
  | [], f, p, h, _ => by
    have : ¬ p < T.size := (drop_nil_iff T p).1 h
    rw [startsFrom_end T f p this]
    rfl
  | c :: cs, f, p, h, hf => by
    rw [joinL_cons] at h hf
    have hne := enc_ne (orSpoilt c) (joinL cs)
    have hp : p < T.size := by
      by_cases hp : p < T.size
      · exact hp
      · rw [(drop_nil_iff T p).2 hp] at h
        exact absurd h.symm hne
    have h1 := decode_enc (orSpoilt c) (orSpoilt_may c) (joinL cs)
    have hd : Utf8.decode T p = ((orSpoilt c).toNat, (encodeRune (orSpoilt c)).length) := by
      rw [← decodeL_drop, h, h1]
    have hge := decode_ge1 (encodeRune (orSpoilt c) ++ joinL cs)
    rw [h1] at hge
    rw [List.length_append] at hf
    match f with
    | 0 => simp at hge; omega
    | f + 1 =>
      rw [startsFrom_step T f p hp, hd]
      show (p : Int) :: _ = (p : Int) :: _
      congr 1
      refine starts_join T cs f _ ?_ ?_
      · rw [← List.drop_drop, h, List.drop_left]
      · simp at hge; omega

/-- The pieces between places, one by one. -/
def piecesL (T : ByteArray) : List Int → List ByteArray
  | a :: b :: r => T.extract a.toNat b.toNat :: piecesL T (b :: r)
  | _ => []
theorem piecesL_K (T : ByteArray) : ∀ (k : Nat) (l : List Int), l.length = k + 1 → piecesK T l k = piecesL T l
  | 0, l, h => by
    match l, h with
    | [a], _ => rfl
  | k + 1, l, h => by
    match l, h with
    | a :: b :: r, h =>
      have ih := piecesL_K T k (b :: r) (by simpa using h)
      show _ = T.extract a.toNat b.toNat :: piecesL T (b :: r)
      rw [← ih]
      unfold piecesK
      rw [List.range_succ_eq_map, List.map_cons, List.map_map]
      rfl
theorem pieces_L (T : ByteArray) : pieces T = piecesL T (cstarts T) := piecesL_K T _ _ (cstarts_len T)

/-- The characters' groups. -/
def grp : RS → List Int → List Int → List (List Int)
  | _, [], acc => [acc]
  | s, c :: cs, acc => if rIs s (ofI c) = true then grp (rNext s (ofI c)) cs (acc ++ [c]) else acc :: grp (rNext s (ofI c)) cs [c]
def groups : List Int → List (List Int)
  | [] => []
  | c :: cs => grp (rNext rs0 (ofI c)) cs [c]
def toText (g : List Int) : ByteArray := ⟨(joinL g).toArray⟩

theorem grp_pieces (T : ByteArray) : ∀ (cs : List Int) (s : RS) (acc : List Int) (a : Nat), T.data.toList.drop a = joinL acc ++ joinL cs → a + (joinL acc).length + (joinL cs).length = T.size →
    piecesL T ((a : Int) :: (startsC s cs (posFrom (a + (joinL acc).length) cs) ++ [(T.size : Int)])) = (grp s cs acc).map toText
  | [], s, acc, a, h, hs => by
    show [T.extract (a : Int).toNat (T.size : Int).toNat] = [toText acc]
    congr 1
    apply ba_ext
    have e : joinL [] = [] := rfl
    rw [e, List.append_nil] at h
    rw [e] at hs
    rw [extract_data, Int.toNat_natCast, Int.toNat_natCast, h]
    show List.take _ (joinL acc) = joinL acc
    rw [List.take_of_length_le (by simp at hs; omega)]
  | c :: cs, s, acc, a, h, hs => by
    rw [joinL_cons] at h hs
    rw [List.length_append] at hs
    show piecesL T ((a : Int) :: (((if rIs s (ofI c) = true then [] else [((a + (joinL acc).length : Nat) : Int)]) ++ startsC (rNext s (ofI c)) cs (posFrom (a + (joinL acc).length + (encodeRune (orSpoilt c)).length) cs)) ++ [(T.size : Int)])) = (if rIs s (ofI c) = true then grp (rNext s (ofI c)) cs (acc ++ [c]) else acc :: grp (rNext s (ofI c)) cs [c]).map toText
    by_cases hj : rIs s (ofI c) = true
    · rw [if_pos hj, if_pos hj, List.nil_append]
      have ih := grp_pieces T cs (rNext s (ofI c)) (acc ++ [c]) a (by rw [joinL_app, joinL_one, h, List.append_assoc]) (by rw [joinL_app, joinL_one, List.length_append]; omega)
      rw [joinL_app, joinL_one, List.length_append, ← Nat.add_assoc] at ih
      exact ih
    · rw [if_neg hj, if_neg hj]
      have hd : T.data.toList.drop (a + (joinL acc).length) = joinL [c] ++ joinL cs := by
        rw [← List.drop_drop, h, List.drop_left, joinL_one]
      have ih := grp_pieces T cs (rNext s (ofI c)) [c] (a + (joinL acc).length) hd (by rw [joinL_one]; omega)
      rw [joinL_one] at ih
      rw [List.map_cons, ← ih]
      show T.extract (a : Int).toNat ((a + (joinL acc).length : Nat) : Int).toNat :: _ = _
      congr 1
      apply ba_ext
      rw [extract_data, Int.toNat_natCast, Int.toNat_natCast, h]
      show _ = joinL acc
      rw [show a + (joinL acc).length - a = (joinL acc).length by omega, List.take_left]

theorem pieces_groups (cs : List Int) (hm : ∀ c ∈ cs, mayB c = true) : pieces (toText cs) = (groups cs).map toText := by
  have hsz : (toText cs).size = (joinL cs).length := by show (joinL cs).toArray.size = _; simp
  have hst : starts0 (toText cs) = posFrom 0 cs := by
    unfold starts0
    exact starts_join (toText cs) cs _ 0 rfl (by rw [hsz]; exact Nat.le_refl _)
  rw [pieces_L]
  unfold cstarts
  rw [hst, show chars (toText cs) = cs from chars_join' cs hm]
  cases cs with
  | nil => rfl
  | cons c cs =>
    have h := grp_pieces (toText (c :: cs)) cs (rNext rs0 (ofI c)) [c] 0 (by rw [joinL_one]; exact joinL_cons c cs) (by rw [joinL_one, hsz, joinL_cons, List.length_append]; omega)
    rw [joinL_one] at h
    exact h

/-- Parted where a character is not joined. -/
theorem grp_part : ∀ (a : List Int) (s : RS) (c : Int) (b acc : List Int), rIs (a.foldl (fun s c => rNext s (ofI c)) s) (ofI c) = false →
    grp s (a ++ c :: b) acc = grp s a acc ++ grp (rNext (a.foldl (fun s c => rNext s (ofI c)) s) (ofI c)) b [c]
  | [], s, c, b, acc, h => by
    have h' : rIs s (ofI c) = false := h
    show (if rIs s (ofI c) = true then _ else acc :: grp (rNext s (ofI c)) b [c]) = [acc] ++ grp (rNext s (ofI c)) b [c]
    rw [h', if_neg (by simp)]
    rfl
  | x :: a, s, c, b, acc, h => by
    have i1 := grp_part a (rNext s (ofI x)) c b (acc ++ [x]) h
    have i2 := grp_part a (rNext s (ofI x)) c b [x] h
    show (if rIs s (ofI x) = true then grp (rNext s (ofI x)) (a ++ c :: b) (acc ++ [x]) else acc :: grp (rNext s (ofI x)) (a ++ c :: b) [x]) = (if rIs s (ofI x) = true then grp (rNext s (ofI x)) a (acc ++ [x]) else acc :: grp (rNext s (ofI x)) a [x]) ++ _
    split
    · exact i1
    · rw [i2]; rfl
theorem run_last : ∀ (l : List Int) (s : RS), l ≠ [] → (l.foldl (fun s c => rNext s (ofI c)) s).last = ofI (l.getLastD 0)
  | [], _, h => absurd rfl h
  | [x], s, _ => rfl
  | x :: y :: l, s, _ => by
    have ih := run_last (y :: l) (rNext s (ofI x)) (by simp)
    exact ih
theorem brk0 : brkB 0 = false := rfl
theorem hgl0 (k : Int) : hglB k 0 = false := by simp [hglB]
/-- Behind any class but Prepend, one of the class Other is not joined. -/
theorem rIs_other (s : RS) (h : s.last ≠ 7) : rIs s 0 = false := by
  unfold rIs
  by_cases ha : s.any = false
  · rw [if_pos ha]
  · rw [if_neg ha, if_neg (by omega)]
    by_cases hb : brkB s.last = true ∨ brkB 0 = true
    · rw [if_pos hb]
    · rw [if_neg hb, if_neg (by rw [hgl0]; simp; exact h), if_neg (by decide), if_neg (by decide)]
theorem rNext_other (s : RS) : rNext s 0 = rNext rs0 0 := by
  unfold rNext
  simp
theorem groups_two (x b : List Int) (c : Int) (hc : ofI c = 0) (hx : x = [] ∨ ofI (x.getLastD 0) ≠ 7) : groups (x ++ c :: b) = groups x ++ groups (c :: b) := by
  cases x with
  | nil => rfl
  | cons y x =>
    have hl := run_last (y :: x) rs0 (by simp)
    have hne : ofI ((y :: x).getLastD 0) ≠ 7 := by
      rcases hx with h | h
      · exact absurd h (by simp)
      · exact h
    have hr : rIs (x.foldl (fun s c => rNext s (ofI c)) (rNext rs0 (ofI y))) (ofI c) = false := by
      rw [hc]
      refine rIs_other _ ?_
      intro e
      exact hne (hl.symm.trans e)
    show grp (rNext rs0 (ofI y)) (x ++ c :: b) [y] = grp (rNext rs0 (ofI y)) x [y] ++ grp (rNext rs0 (ofI c)) b [c]
    rw [grp_part x _ c b [y] hr, hc, rNext_other]
theorem pieces_two (x b : List Int) (c : Int) (hm : ∀ d ∈ x ++ c :: b, mayB d = true) (hc : ofI c = 0) (hx : x = [] ∨ ofI (x.getLastD 0) ≠ 7) : pieces (toText (x ++ c :: b)) = pieces (toText x) ++ pieces (toText (c :: b)) := by
  rw [pieces_groups _ hm, pieces_groups x (fun d hd => hm d (List.mem_append_left _ hd)), pieces_groups (c :: b) (fun d hd => hm d (List.mem_append_right _ hd)), groups_two x b c hc hx, List.map_append]

end Go.Proofs.Ytaocnnebfnlgiaa
