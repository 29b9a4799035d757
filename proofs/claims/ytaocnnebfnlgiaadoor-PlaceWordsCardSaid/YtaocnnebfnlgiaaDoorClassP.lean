/-
  The classes' ranges, plain; and what the class of a character is.
-/
import Derived.WalkKit
namespace Go.Proofs.YtaocnnebfnlgiaaDoor
open Go.RowKit

def rng1 : List (Int × Int) := [(13, 13)]
def rng2 : List (Int × Int) := [(10, 10)]
def rng3 : List (Int × Int) := [(0, 9), (11, 12), (14, 31), (127, 159), (173, 173), (8203, 8203), (8206, 8207), (8232, 8238), (8288, 8303), (65279, 65279), (65520, 65531), (917504, 917535)]
def rng4 : List (Int × Int) := [(768, 879), (1155, 1161), (1425, 1469), (1552, 1562), (1611, 1631), (1648, 1648), (2364, 2364), (2369, 2376), (2381, 2381), (8204, 8204), (8400, 8432), (12330, 12335), (12441, 12442), (65024, 65039), (65056, 65071), (127995, 127999), (917536, 917631), (917760, 917999)]
def rng5 : List (Int × Int) := [(8205, 8205)]
def rng6 : List (Int × Int) := [(127462, 127487)]
def rng7 : List (Int × Int) := [(1536, 1541), (1757, 1757), (1807, 1807), (2274, 2274)]
def rng8 : List (Int × Int) := [(2307, 2307), (2363, 2363), (2366, 2368), (2377, 2380), (2434, 2435), (3635, 3635), (3763, 3763)]
def rng9 : List (Int × Int) := [(4352, 4447), (43360, 43388)]
def rng10 : List (Int × Int) := [(4448, 4519), (55216, 55238)]
def rng11 : List (Int × Int) := [(4520, 4607), (55243, 55291)]
def rng14 : List (Int × Int) := [(169, 169), (174, 174), (8252, 8252), (8265, 8265), (8482, 8482), (8505, 8505), (8596, 8601), (8986, 8987), (9728, 9732), (9989, 9989), (10084, 10084), (127744, 127994), (128000, 128591), (128640, 128767), (129280, 129535)]
/-- A class's ranges. -/
def rng (k : Int) : List (Int × Int) :=
  if k = 1 then rng1
  else if k = 2 then rng2
  else if k = 3 then rng3
  else if k = 4 then rng4
  else if k = 5 then rng5
  else if k = 6 then rng6
  else if k = 7 then rng7
  else if k = 8 then rng8
  else if k = 9 then rng9
  else if k = 10 then rng10
  else if k = 11 then rng11
  else if k = 14 then rng14
  else []
def inR (c : Int) (r : Int × Int) : Bool := decide (r.1 ≤ c ∧ c ≤ r.2)
def hasK (k c : Int) : Bool := (rng k).any (inR c)
def findK (c : Int) : Nat → Int → Int
  | 0, _ => 0
  | f + 1, k => if hasK k c = true then k else findK c f (k + 1)
/-- The class of a character. -/
def ofI (c : Int) : Int := if 44032 ≤ c ∧ c ≤ 55203 then (if (c - 44032) % 28 = 0 then 12 else 13) else findK c 14 1

/-- The table of all ranges: first, last, class. -/
def tbl : List (Int × Int × Int) := [(13, 13, 1), (10, 10, 2), (0, 9, 3), (11, 12, 3), (14, 31, 3), (127, 159, 3), (173, 173, 3), (8203, 8203, 3), (8206, 8207, 3), (8232, 8238, 3), (8288, 8303, 3), (65279, 65279, 3), (65520, 65531, 3), (917504, 917535, 3), (768, 879, 4), (1155, 1161, 4), (1425, 1469, 4), (1552, 1562, 4), (1611, 1631, 4), (1648, 1648, 4), (2364, 2364, 4), (2369, 2376, 4), (2381, 2381, 4), (8204, 8204, 4), (8400, 8432, 4), (12330, 12335, 4), (12441, 12442, 4), (65024, 65039, 4), (65056, 65071, 4), (127995, 127999, 4), (917536, 917631, 4), (917760, 917999, 4), (8205, 8205, 5), (127462, 127487, 6), (1536, 1541, 7), (1757, 1757, 7), (1807, 1807, 7), (2274, 2274, 7), (2307, 2307, 8), (2363, 2363, 8), (2366, 2368, 8), (2377, 2380, 8), (2434, 2435, 8), (3635, 3635, 8), (3763, 3763, 8), (4352, 4447, 9), (43360, 43388, 9), (4448, 4519, 10), (55216, 55238, 10), (4520, 4607, 11), (55243, 55291, 11), (169, 169, 14), (174, 174, 14), (8252, 8252, 14), (8265, 8265, 14), (8482, 8482, 14), (8505, 8505, 14), (8596, 8601, 14), (8986, 8987, 14), (9728, 9732, 14), (9989, 9989, 14), (10084, 10084, 14), (127744, 127994, 14), (128000, 128591, 14), (128640, 128767, 14), (129280, 129535, 14)]
theorem tbl_len : tbl.length = 66 := by decide
def tag (k : Int) (rs : List (Int × Int)) : List (Int × Int × Int) := rs.map fun r => (r.1, r.2, k)
def findT (c : Int) : List (Int × Int × Int) → Int
  | [] => 0
  | r :: t => if r.1 ≤ c ∧ c ≤ r.2.1 then r.2.2 else findT c t
theorem findT_tag (c k : Int) : ∀ (rs : List (Int × Int)) (t : List (Int × Int × Int)), findT c (tag k rs ++ t) = if rs.any (inR c) = true then k else findT c t
  | [], t => by simp [tag]
  | r :: rs, t => by
    have ih := findT_tag c k rs t
    have e1 : (r :: rs).any (inR c) = (decide (r.1 ≤ c ∧ c ≤ r.2) || rs.any (inR c)) := rfl
    have e2 : findT c (tag k (r :: rs) ++ t) = if r.1 ≤ c ∧ c ≤ r.2 then k else findT c (tag k rs ++ t) := rfl
    rw [e1, e2, ih]
    by_cases h : r.1 ≤ c ∧ c ≤ r.2
    · rw [if_pos h, if_pos (by simp [h])]
    · rw [if_neg h, decide_eq_false h]
      rfl
theorem tbl_tags : tbl = tag 1 (rng 1) ++ (tag 2 (rng 2) ++ (tag 3 (rng 3) ++ (tag 4 (rng 4) ++ (tag 5 (rng 5) ++ (tag 6 (rng 6) ++ (tag 7 (rng 7) ++ (tag 8 (rng 8) ++ (tag 9 (rng 9) ++ (tag 10 (rng 10) ++ (tag 11 (rng 11) ++ (tag 12 (rng 12) ++ (tag 13 (rng 13) ++ (tag 14 (rng 14) ++ []))))))))))))) := by decide
theorem findK_eq (c : Int) : findK c 14 1 = findT c tbl := by
  rw [tbl_tags, findT_tag, findT_tag, findT_tag, findT_tag, findT_tag, findT_tag, findT_tag, findT_tag, findT_tag, findT_tag, findT_tag, findT_tag, findT_tag, findT_tag]
  rfl
/-- The reference's class. -/
theorem ofI_ref (c : Int) : ofI c = if 44032 ≤ c ∧ c ≤ 55203 then (if (c - 44032) % 28 = 0 then 12 else 13) else findT c tbl := by
  unfold ofI; rw [findK_eq]
theorem findK_bd (c : Int) : ∀ (f : Nat) (k : Int), 1 ≤ k → 0 ≤ findK c f k ∧ findK c f k < k + f
  | 0, k, h => by simp [findK]; omega
  | f + 1, k, h => by
    have ih := findK_bd c f (k + 1) (by omega)
    unfold findK
    split
    · omega
    · omega
theorem ofI_bd (c : Int) : 0 ≤ ofI c ∧ ofI c ≤ 14 := by
  have h := findK_bd c 14 1 (by omega)
  unfold ofI
  split
  · split <;> omega
  · omega
/-- The cells of a list of ranges. -/
def rcells (rs : List (Int × Int)) : List Value := rs.flatMap fun r => [.int .i64 r.1, .int .i64 r.2]
theorem rcells_len : ∀ rs : List (Int × Int), (rcells rs).length = rs.length * 2
  | [] => rfl
  | r :: rs => by
    have ih := rcells_len rs
    simp only [rcells, List.flatMap_cons, List.length_append, List.length_cons, List.length_nil] at ih ⊢
    omega
theorem rcells_get : ∀ (rs : List (Int × Int)) (j : Nat), j < rs.length → (rcells rs)[2 * j]? = some (.int .i64 (rs.getD j (0, 0)).1) ∧ (rcells rs)[2 * j + 1]? = some (.int .i64 (rs.getD j (0, 0)).2)
  | [], j, h => by simp at h
  | r :: rs, 0, _ => by simp [rcells]
  | r :: rs, j + 1, h => by
    have ih := rcells_get rs j (by simpa using h)
    have e1 : 2 * (j + 1) = 2 * j + 1 + 1 := by omega
    rw [e1]
    simpa [rcells] using ih

end Go.Proofs.YtaocnnebfnlgiaaDoor
