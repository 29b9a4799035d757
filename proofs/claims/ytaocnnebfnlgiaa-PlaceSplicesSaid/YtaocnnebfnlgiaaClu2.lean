/-
  Contracts: Len, One; the layer's example. Plain: how many clusters.
-/
import Derived.Test.YtaocnnebfnlgiaaClu1
import Derived.Test.YtaocnnebfnlgiaaSame
namespace Go.Proofs.Ytaocnnebfnlgiaa
open Go.RowKit

/-- How many clusters, of classes. -/
def countK : RS → List Int → Nat
  | _, [] => 0
  | s, k :: ks => (if rIs s k = true then 0 else 1) + countK (rNext s k) ks
theorem startsC_count : ∀ (cs ps : List Int) (s : RS), cs.length = ps.length → (startsC s cs ps).length = countK s (cs.map ofI)
  | [], [], _, _ => rfl
  | c :: cs, p :: ps, s, h => by
    have ih := startsC_count cs ps (rNext s (ofI c)) (by simpa using h)
    show ((if rIs s (ofI c) = true then [] else [p]) ++ startsC (rNext s (ofI c)) cs ps).length = (if rIs s (ofI c) = true then 0 else 1) + countK (rNext s (ofI c)) (cs.map ofI)
    rw [List.length_append, ih]
    split <;> rfl
def clen (s : ByteArray) : Nat := countK rs0 ((chars s).map ofI)
theorem cstarts_len (s : ByteArray) : (cstarts s).length = clen s + 1 := by
  unfold cstarts clen
  rw [List.length_append, startsC_count _ _ _ (chars_len s)]
  rfl
theorem countK_le : ∀ (ks : List Int) (s : RS), countK s ks ≤ ks.length
  | [], _ => by simp [countK]
  | k :: ks, s => by
    have ih := countK_le ks (rNext s k)
    unfold countK
    split <;> (simp; omega)
theorem clen_le (s : ByteArray) : clen s ≤ s.size := by
  have h := countK_le ((chars s).map ofI) rs0
  rw [List.length_map] at h
  have := chars_len_le s
  unfold clen
  omega
theorem countK_app : ∀ (a b : List Int) (s : RS), countK s (a ++ b) = countK s a + countK (a.foldl rNext s) b
  | [], b, s => by simp [countK]
  | k :: a, b, s => by
    have ih := countK_app a b (rNext s k)
    show (if rIs s k = true then 0 else 1) + countK (rNext s k) (a ++ b) = ((if rIs s k = true then 0 else 1) + countK (rNext s k) a) + _
    rw [ih]
    show _ = _ + countK (a.foldl rNext (rNext s k)) b
    omega

set_option maxHeartbeats 400000 in
theorem clen_any (s : ByteArray) (w : World) (hs : s.size ≤ 1000) :
    Calls Try.prog 14 #[.string s] w fun e w' => e = .returned (.int .i64 (clen s : Int)) ∧ Below w.heap.size w w' := by
  have hl := clen_le s
  have CS := cstarts_any s
  have hlen := cstarts_len s
  obtain ⟨n, hn⟩ : ∃ n, clen s = n := ⟨_, rfl⟩
  rw [hn] at hl hlen ⊢
  have HLEN := Lib.hid hlen
  clear hn hlen
  have HS := Lib.hid (fun W : World => CS W hs)
  clear CS
  go_enter Try.func14, Try.ntmps14
  go_wp2_with fail
  refine (HS.out w).mono ?_
  rintro e w1 ⟨v, rfl, o1, b1⟩
  rw [HLEN.out] at o1
  have hform : ∃ A c, v = .slice A (n + 1) c := by
    rcases o1.2 with ⟨h, h0⟩ | ⟨g, cap, cur, h, _⟩
    · omega
    · exact ⟨_, cap, h⟩
  obtain ⟨A, c, rfl⟩ := hform
  have B1 := aside b1
  clear o1 b1
  go_wp2
  go_ret
  exact ⟨ret_int (by omega), B1.out⟩

set_option maxHeartbeats 400000 in
theorem cone_any (s : ByteArray) (w : World) (hs : s.size ≤ 1000) :
    Calls Try.prog 29 #[.string s] w fun e w' => e = .returned (.bool (clen s == 1)) ∧ Below w.heap.size w w' := by
  have HS := Lib.hid (fun W : World => clen_any s W hs)
  obtain ⟨n, hn⟩ : ∃ n, clen s = n := ⟨_, rfl⟩
  rw [hn] at HS ⊢
  clear hn
  by_cases h1 : n = 1
  · subst h1
    go_enter Try.func29, Try.ntmps29
    go_wp2_with fail
    refine (HS.out w).mono ?_
    rintro e w1 ⟨rfl, b1⟩
    go_wp2
    go_ret
    exact ⟨rfl, b1⟩
  · have hb : ((n : Int) == 1) = false := by simp; omega
    have HB2 : Hid ((n == 1) = false) := by show _ = _; simpa using h1
    clear h1
    go_enter Try.func29, Try.ntmps29
    go_wp2_with fail
    refine (HS.out w).mono ?_
    rintro e w1 ⟨rfl, b1⟩
    go_wp2
    go_ret
    exact ⟨ret_bool (by rw [HB2.out]), b1⟩

theorem three_new' (w : World) (a b c : Int) (t : TypeId) : IsInts (w.alloc (.cells #[.int .i64 a, .int .i64 b, .int .i64 c] t)) (.slice (some ⟨w.heap.size, 0, none⟩) 3 3) [a, b, c] :=
  ⟨_, _, rfl, by simp, by omega, fun _ => ⟨_, _, rfl, fun j hj => by
    simp at hj
    have : j = 0 ∨ j = 1 ∨ j = 2 := by omega
    rcases this with rfl | rfl | rfl <;> simp [World.cell?_alloc_new]⟩⟩

theorem ex_starts : cstarts ⟨#[101, 204, 129, 120]⟩ = [0, 3, 4] := by decide +kernel

set_option maxHeartbeats 400000 in
theorem lives3 (w : World) :
    Calls Try.prog 15 #[] w fun e w' => e = .returned (.bool true) ∧ Below w.heap.size w w' := by
  have HS := Lib.hid (fun W : World => cstarts_any ⟨#[101, 204, 129, 120]⟩ W (by decide))
  rw [ex_starts] at HS
  go_enter Try.func15, Try.ntmps15
  go_wp2_with fail
  refine (HS.out w).mono ?_
  rintro e w1 ⟨v, rfl, o1, b1⟩
  have I1 := Lib.hid (IsInts.of_own o1)
  have B1 := aside b1
  clear o1 b1
  go_wp2_with fail
  refine (same_any [0, 3, 4] [0, 3, 4] _ _ _ (I1.out.alloc _) (three_new' _ _ _ _ _) (by decide) (by decide)).mono ?_
  rintro e w3 ⟨rfl, n, rfl⟩
  go_wp2
  go_ret
  exact ⟨rfl, below_drewN (B1.out.alloc B1.out.size _) _⟩

end Go.Proofs.Ytaocnnebfnlgiaa
