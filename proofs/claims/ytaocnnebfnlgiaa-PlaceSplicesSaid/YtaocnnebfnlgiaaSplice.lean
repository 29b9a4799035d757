/-
  Contracts: Splice.
-/
import Derived.Test.YtaocnnebfnlgiaaSlices
import Derived.Deep.RegionHeld3
import Derived.Laws.Concat
namespace Go.Proofs.Ytaocnnebfnlgiaa
open Go.RowKit

/-- A text with another one in the place of clusters. -/
def spliceS (s : ByteArray) (l : List Int) (i j : Nat) (t : ByteArray) : ByteArray := s.extract 0 (l.getD i 0).toNat ++ t ++ s.extract (l.getD j 0).toNat s.size
theorem size_app (a b : ByteArray) : (a ++ b).size = a.size + b.size := ByteArray.size_append
theorem size_ext_le (a : ByteArray) (i j : Nat) : (a.extract i j).size ≤ a.size := by
  rw [ByteArray.size_extract]; omega
theorem splice_size (s : ByteArray) (l : List Int) (i j : Nat) (t : ByteArray) : (spliceS s l i j t).size ≤ s.size + t.size + s.size := by
  unfold spliceS
  rw [size_app, size_app]
  have := size_ext_le s 0 (l.getD i 0).toNat
  have := size_ext_le s (l.getD j 0).toNat s.size
  omega

section
variable (g : Nat) (s : ByteArray) (l : List Int)

set_option maxHeartbeats 4000000 in
theorem splice_yes (i j : Nat) (t : ByteArray) (w : World) (hm : MapL w g s l) (hl : OkS s l) (hs : s.size ≤ 100) (ht : t.size ≤ 100) (hij : i ≤ j) (hj : j < l.length) :
    Calls Try.prog 41 #[.pointer (some ⟨g, 0, none⟩), .int .i64 (i : Int), .int .i64 (j : Int), .string t] w fun e w' => ∃ g2, e = .returned (.tuple #[.pointer (some ⟨g2, 0, none⟩), .bool true]) ∧ MapL w' g2 (spliceS s l i j t) (cstarts (spliceS s l i j t)) ∧ Below w.heap.size w w' := by
  have HA := Lib.hid (has_yes g s l i j w hm hl.ok hij hj)
  have hsz := splice_size s l i j t
  have NW := Lib.hid (fun W : World => new_any (spliceS s l i j t) W (by omega))
  obtain ⟨b, c, k0, k1, h1, h2, hc⟩ := hm
  have ci := hc i (by omega)
  have cj := hc j hj
  rw [Nat.zero_add] at ci cj
  have a0 := hl.low i (by omega)
  have a1 := hl.high j hj
  have a2 := up_le hl.ok.up i j hij hj
  have a3 := hl.sz
  have a4 := hl.ok.small
  have hcut : spliceS s l i j t = s.extract 0 (l.getD i 0).toNat ++ t ++ s.extract (l.getD j 0).toNat s.size := rfl
  obtain ⟨x, hx⟩ : ∃ x, l.getD i 0 = x := ⟨_, rfl⟩
  obtain ⟨y, hy⟩ : ∃ y, l.getD j 0 = y := ⟨_, rfl⟩
  rw [hx] at ci a0 a2 hcut
  rw [hy] at cj a1 a2 hcut
  rw [hcut] at NW ⊢
  have hi1 : (i : Int) < (l.length : Int) := by omega
  have hj1 : (j : Int) < (l.length : Int) := by omega
  have hx1 : x ≤ (s.size : Int) := by omega
  have hy0 : 0 ≤ y := by omega
  clear hc hl hx hy hcut hsz a2
  go_enter Try.func41, Try.ntmps41
  go_wp2_with fail
  refine HA.out.mono ?_
  rintro e w' ⟨rfl, rfl⟩
  go_wp2_with fail
  have hz1 : (s.extract 0 x.toNat).size ≤ s.size := size_ext_le _ _ _
  have hz2 : (s.extract y.toNat s.size).size ≤ s.size := size_ext_le _ _ _
  have cat1 : ∀ W : World, (Op.stringOp .add (s.extract 0 x.toNat) t).run Try.prog W = .ok (.string (s.extract 0 x.toNat ++ t)) W := fun W => run_string_add_sum _ _ _ (by omega)
  have cat2 : ∀ W : World, (Op.stringOp .add (s.extract 0 x.toNat ++ t) (s.extract y.toNat s.size)).run Try.prog W = .ok (.string (s.extract 0 x.toNat ++ t ++ s.extract y.toNat s.size)) W := fun W => run_string_add_sum _ _ _ (by rw [size_app]; omega)
  clear hz1 hz2
  have hgl : g < w.heap.size := World.block_lt_of_cell? w _ k0
  have hbl : b < w.heap.size := World.block_lt_of_cell? w _ ci
  go_region_held3 (fun w' => w'.cell? ⟨g, 0, none⟩ = some (.string s) ∧ w'.cell? ⟨g, 1, none⟩ = some (.slice (some ⟨b, 0, none⟩) l.length c) ∧ w'.cell? ⟨b, i, none⟩ = some (.int .i64 x) ∧ w'.cell? ⟨b, j, none⟩ = some (.int .i64 y))
    (first
      | go_keep
      | (go_split_ands
         refine ⟨?_, ?_, ?_, ?_⟩
         · (rw [b3.cell (p := ⟨g, 0, none⟩) hgl]; assumption)
         · (rw [b3.cell (p := ⟨g, 1, none⟩) hgl]; assumption)
         · (rw [b3.cell (p := ⟨b, i, none⟩) hbl]; assumption)
         · (rw [b3.cell (p := ⟨b, j, none⟩) hbl]; assumption)))
    ((go_simp; go_at_call 58; refine (NW.out _).mono ?_; rintro e w3 ⟨g2, rfl, m3, b3⟩))
  have X := aside (And.intro m3 b3)
  clear m3 b3
  go_wp2
  go_ret2
  exact ⟨g2, rfl, X.out.1, (below_drewN (Below.refl w.heap.size w) 1).trans X.out.2⟩

set_option maxHeartbeats 1000000 in
theorem splice_no (i j : Int) (t : ByteArray) (w : World) (hm : MapL w g s l) (hl : OkL l) (h : i < 0 ∨ j < i ∨ (l.length : Int) ≤ j) :
    Calls Try.prog 41 #[.pointer (some ⟨g, 0, none⟩), .int .i64 i, .int .i64 j, .string t] w fun e w' => e = .returned (.tuple #[.pointer none, .bool false]) ∧ w = w' := by
  have HA := Lib.hid (has_no g s l i j w hm hl h)
  clear hm hl h
  go_enter Try.func41, Try.ntmps41
  go_wp2_with fail
  refine HA.out.mono ?_
  rintro e w' ⟨rfl, rfl⟩
  go_wp2
  go_ret2
  exact ⟨rfl, rfl⟩
end

end Go.Proofs.Ytaocnnebfnlgiaa
