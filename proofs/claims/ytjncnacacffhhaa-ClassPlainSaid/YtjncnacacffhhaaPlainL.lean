/-
  The law's own plain lists: their contract, and that they are plain.
-/
import Derived.Test.YtjncnacacffhhaaPlain
import Derived.Deep.AppendLies
namespace Go.Proofs.Ytjncnacacffhhaa
open Go.RowKit

theorem info_int3 : (Try.prog.info? 3).map (fun i => (i.zero, i.size, i.bytes)) = some (some (.int .i64 0), 1, 8) := by kernel_rfl

def itemI (j : Nat) (x : Int) : Int := if 25 < aroundI x 60 ∧ 0 < j then 768 + aroundI x 60 else 65 + aroundI x 60 % 26
def itemsL (l : List Int) (k : Nat) : List Int := (List.range k).map fun j => itemI j (l.getD j 0)
theorem itemsL_len (l : List Int) (k : Nat) : (itemsL l k).length = k := by simp [itemsL]
theorem itemsL_succ (l : List Int) (k : Nat) : itemsL l (k + 1) = itemsL l k ++ [itemI k (l.getD k 0)] := by simp [itemsL, List.range_succ]
theorem itemsL_get (l : List Int) (k j : Nat) (h : j < k) : (itemsL l k).getD j 0 = itemI j (l.getD j 0) := by simp [itemsL, h]
theorem item_cls (j : Nat) (x : Int) : ofI (itemI j x) = 0 ∨ (ofI (itemI j x) = 4 ∧ 0 < j) := by
  have hb := aroundI_bd x 60 (by omega)
  have H1 : ∀ k : Fin 26, ofI (65 + (k.val : Int)) = 0 := by decide +kernel
  have H2 : ∀ k : Fin 60, 25 < k.val → ofI (768 + (k.val : Int)) = 4 := by decide +kernel
  unfold itemI
  obtain ⟨q, hq⟩ : ∃ q : Nat, aroundI x 60 = (q : Int) := ⟨(aroundI x 60).toNat, by omega⟩
  rw [hq] at hb ⊢
  split
  · rename_i h
    right
    have := H2 ⟨q, by omega⟩ (by show 25 < q; omega)
    exact ⟨this, h.2⟩
  · left
    have := H1 ⟨q % 26, by omega⟩
    have e : ((q % 26 : Nat) : Int) = (q : Int) % 26 := by omega
    simp only [e] at this
    exact this
theorem item_bd (j : Nat) (x : Int) : 0 ≤ itemI j x ∧ itemI j x ≤ 1000 := by
  have hb := aroundI_bd x 60 (by omega)
  unfold itemI
  split <;> omega

set_option maxHeartbeats 2000000 in
theorem lplain_any (v : Value) (l : List Int) (w : World) (hl : IsInts w v l) (hb : ∀ j, j < l.length → -9223372036854775808 ≤ l.getD j 0 ∧ l.getD j 0 ≤ 9223372036854775807) (hlen : l.length ≤ 1000) :
    Calls Try.prog 21 #[v] w fun e w' => ∃ v', e = .returned v' ∧ w'.ownsRow w.heap.size 3 1 v' (itemsL l l.length).length (ints (itemsL l l.length)) ∧ Below w.heap.size w w' := by
  obtain ⟨i0, hi, hz0, hz1, hz2⟩ := info_parts info_int3
  obtain ⟨A, c, rfl, hlc, hcm, _⟩ := id hl
  obtain ⟨_, _, _, hform⟩ := hl.form2
  have HB := Lib.hid hb
  clear hl hb
  rcases hform with hz | ⟨ab, ao, rfl, hab, HC⟩
  all_goals
    go_enter Try.func21, Try.ntmps21
    go_wp2_with fail
    go_loopw [3, 4] (fun pv i wr => ∃ (pv0 : Value) (k : Nat), pv0 = pv ∧ i = .int .i64 k ∧ k ≤ l.length ∧ Below w.heap.size w wr ∧ wr.ownsRow w.heap.size 3 1 pv0 k (ints (itemsL l k))) (fun _ i _ => l.length - (intOf i).toNat)
    case atStart => exact ⟨_, 0, rfl, rfl, Nat.zero_le _, Below.refl _ _, World.ownsRow_nil _ _ _ _⟩
    case round =>
      obtain ⟨pv, k, rfl, rfl, hk, hbw, hown⟩ := hrel
      have BW := aside hbw
      clear hbw
      by_cases hlt : k < l.length
      · first
          | (exfalso; omega)
          | (have hck : wr.cell? ⟨ab, ao + k, none⟩ = some (.int .i64 (l.getD k 0)) := by
               rw [BW.out.cell (p := ⟨ab, ao + k, none⟩) hab, HC.out k hlt]
             have hbd := HB.out k hlt
             obtain ⟨x, hx⟩ : ∃ x, l.getD k 0 = x := ⟨_, rfl⟩
             rw [hx] at hck hbd
             have HX := Lib.hid hx
             clear hx
             obtain ⟨hx0, hx1⟩ := hbd
             obtain ⟨q, hq, hq1⟩ := around_nat x 60 (by omega)
             have HQ := Lib.hid hq
             clear hq
             have hsz : Hid (w.heap.size ≤ wr.heap.size) := BW.out.size
             go_wp2_with fail
             refine (around_any x 60 wr hx0 hx1 (by omega) (by omega)).mono ?_
             rintro e w' ⟨rfl, rfl⟩
             rw [HQ.out]
             rcases (show (25 < q ∧ 0 < k) ∨ (25 < q ∧ k ≤ 0) ∨ q ≤ 25 by omega) with ⟨hq25, hk0⟩ | ⟨hq25, hk0⟩ | hq25
             · have HI : Hid (itemI k (l.getD k 0) = 768 + (q : Int)) := by show _ = _; unfold itemI; rw [HX.out, HQ.out, if_pos ⟨by omega, hk0⟩]
               go_wp2_with (first
                 | (at_builtin
                    refine wpList_append_own _ rfl _ _ 32 rfl w.heap.size 3 i0 (.int .i64 0) 1 8 Try.underlying32 hi hz0 hz1 hz2 rfl (by decide) _ _ _ rfl (hown.alloc _) ⟨wr.heap.size, 0, none⟩ 1 1 [.int .i64 (768 + (q : Int))] rfl rfl (cell_one_new _ _ _) (fun x hx => by simp at hx; subst hx; rfl) (by unfold maxLen; omega) (by omega) (by have := hsz.out; simp; omega) ?_
                    intro v' w3 hown' hgrow3 hnil3
                    have X : Aside (w3.ownsRow w.heap.size 3 1 v' (k + 1) (ints (itemsL l (k + 1))) ∧ Below w.heap.size w w3) := by
                      refine ⟨?_, Below.grown (BW.out.alloc hsz.out _) hgrow3 (by have := hsz.out; simp; omega) (fun j hj => (hown.lt _ hj).1)⟩
                      rw [itemsL_succ, HI.out, ints_append]; exact hown'
                    clear hown' hgrow3 hnil3))
               go_roundw
               case rel => exact ⟨_, k + 1, rfl, by go_num, by omega, X.out.2, X.out.1⟩
               case measure => simp [intOf]; omega
             · have HI : Hid (itemI k (l.getD k 0) = 65 + (q : Int) % 26) := by show _ = _; unfold itemI; rw [HX.out, HQ.out, if_neg (by omega)]
               go_wp2_with (first
                 | (at_builtin
                    refine wpList_append_own _ rfl _ _ 32 rfl w.heap.size 3 i0 (.int .i64 0) 1 8 Try.underlying32 hi hz0 hz1 hz2 rfl (by decide) _ _ _ rfl (hown.alloc _) ⟨wr.heap.size, 0, none⟩ 1 1 [.int .i64 (65 + (q : Int) % 26)] rfl rfl (cell_one_new _ _ _) (fun x hx => by simp at hx; subst hx; rfl) (by unfold maxLen; omega) (by omega) (by have := hsz.out; simp; omega) ?_
                    intro v' w3 hown' hgrow3 hnil3
                    have X : Aside (w3.ownsRow w.heap.size 3 1 v' (k + 1) (ints (itemsL l (k + 1))) ∧ Below w.heap.size w w3) := by
                      refine ⟨?_, Below.grown (BW.out.alloc hsz.out _) hgrow3 (by have := hsz.out; simp; omega) (fun j hj => (hown.lt _ hj).1)⟩
                      rw [itemsL_succ, HI.out, ints_append]; exact hown'
                    clear hown' hgrow3 hnil3))
               go_roundw
               case rel => exact ⟨_, k + 1, rfl, by go_num, by omega, X.out.2, X.out.1⟩
               case measure => simp [intOf]; omega
             · have HI : Hid (itemI k (l.getD k 0) = 65 + (q : Int) % 26) := by show _ = _; unfold itemI; rw [HX.out, HQ.out, if_neg (by omega)]
               go_wp2_with (first
                 | (at_builtin
                    refine wpList_append_own _ rfl _ _ 32 rfl w.heap.size 3 i0 (.int .i64 0) 1 8 Try.underlying32 hi hz0 hz1 hz2 rfl (by decide) _ _ _ rfl (hown.alloc _) ⟨wr.heap.size, 0, none⟩ 1 1 [.int .i64 (65 + (q : Int) % 26)] rfl rfl (cell_one_new _ _ _) (fun x hx => by simp at hx; subst hx; rfl) (by unfold maxLen; omega) (by omega) (by have := hsz.out; simp; omega) ?_
                    intro v' w3 hown' hgrow3 hnil3
                    have X : Aside (w3.ownsRow w.heap.size 3 1 v' (k + 1) (ints (itemsL l (k + 1))) ∧ Below w.heap.size w w3) := by
                      refine ⟨?_, Below.grown (BW.out.alloc hsz.out _) hgrow3 (by have := hsz.out; simp; omega) (fun j hj => (hown.lt _ hj).1)⟩
                      rw [itemsL_succ, HI.out, ints_append]; exact hown'
                    clear hown' hgrow3 hnil3))
               go_roundw
               case rel => exact ⟨_, k + 1, rfl, by go_num, by omega, X.out.2, X.out.1⟩
               case measure => simp [intOf]; omega)
      · obtain rfl : k = l.length := by omega
        have X := aside hown
        clear hown
        go_wp2
        go_ret
        exact ⟨_, rfl, by rw [itemsL_len]; exact X.out, BW.out⟩

end Go.Proofs.Ytjncnacacffhhaa
