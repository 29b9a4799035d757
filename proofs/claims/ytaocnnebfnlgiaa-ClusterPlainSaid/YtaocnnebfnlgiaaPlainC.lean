/-
  The contract of Plain, and the law's plain characters.
-/
import Derived.Test.YtaocnnebfnlgiaaClass2
import Derived.Test.YtaocnnebfnlgiaaBase
namespace Go.Proofs.Ytaocnnebfnlgiaa
open Go.RowKit

/-- Is a list plain? -/
def plainAt (l : List Int) (j : Nat) : Bool := ofI (l.getD j 0) == 0 || (ofI (l.getD j 0) == 4 && decide (0 < j))
def plainB (l : List Int) : Bool := decide (0 < l.length) && (List.range l.length).all (plainAt l)
theorem plain_no (l : List Int) (j : Nat) (hj : j < l.length) (h : plainAt l j = false) : plainB l = false := by
  unfold plainB
  have : (List.range l.length).all (plainAt l) = false := by
    rw [List.all_eq_false]
    exact ⟨j, by simpa using hj, by rw [h]; decide⟩
  rw [this, Bool.and_false]
theorem plain_yes (l : List Int) (h : ∀ j, j < l.length → plainAt l j = true) : plainB l = decide (0 < l.length) := by
  unfold plainB
  have : (List.range l.length).all (plainAt l) = true := by
    rw [List.all_eq_true]
    exact fun j hj => h j (by simpa using hj)
  rw [this, Bool.and_true]

/-- Either nothing, or an address with its cells. -/
theorem IsInts.form2 {w : World} {A : Option Addr} {n c : Nat} {l : List Int} (h : IsInts w (.slice A n c) l) : n = l.length ∧ n ≤ c ∧ c ≤ 9223372036854775807 ∧
    (n ≤ 0 ∨ ∃ ab ao, A = some ⟨ab, ao, none⟩ ∧ ab < w.heap.size ∧ Hid (∀ j, j < n → w.cell? ⟨ab, ao + j, none⟩ = some (.int .i64 (l.getD j 0)))) := by
  obtain ⟨A', c', he, h0, h1, h2⟩ := h
  injection he with e1 e2 e3
  subst e1; subst e2; subst e3
  refine ⟨rfl, h0, h1, ?_⟩
  rcases Nat.eq_zero_or_pos l.length with h | h
  · exact .inl (by omega)
  · obtain ⟨b, off, rfl, hc⟩ := h2 h
    have := World.block_lt_of_cell? w _ (hc 0 h)
    exact .inr ⟨b, off, rfl, this, hc⟩

set_option maxHeartbeats 2000000 in
theorem plain_any (v : Value) (l : List Int) (w : World) (hl : IsInts w v l) (hb : ∀ j, j < l.length → -9223372036854775808 ≤ l.getD j 0 ∧ l.getD j 0 ≤ 9223372036854775807) :
    Calls Try.prog 47 #[v] w fun e w' => e = .returned (.bool (plainB l)) ∧ Below w.heap.size w w' := by
  obtain ⟨A, c, rfl, hlc, hcm, _⟩ := id hl
  obtain ⟨_, _, _, hform⟩ := hl.form2
  have HB := Lib.hid hb
  clear hl hb
  obtain ⟨r, hr⟩ : ∃ r, plainB l = r := ⟨_, rfl⟩
  have HR := Lib.hid hr
  rw [hr]
  clear hr
  rcases hform with hz | ⟨ab, ao, rfl, hab, HC⟩
  all_goals
    go_enter Try.func47, Try.ntmps47
    go_wp2_with fail
    go_loopw [8] (fun i wr => ∃ k : Nat, i = .int .i64 k ∧ k ≤ l.length ∧ Below w.heap.size w wr ∧ Hid (∀ j, j < k → plainAt l j = true)) (fun i _ => l.length - (intOf i).toNat)
    case atStart => exact ⟨0, rfl, Nat.zero_le _, Below.refl _ _, fun j hj => absurd hj (by omega)⟩
    case round =>
      obtain ⟨k, rfl, hk, hbw, HN⟩ := hrel
      have BW := aside hbw
      clear hbw
      by_cases hlt : k < l.length
      · first
          | (exfalso; omega)
          | (have hck : wr.cell? ⟨ab, ao + k, none⟩ = some (.int .i64 (l.getD k 0)) := by
               rw [BW.out.cell (p := ⟨ab, ao + k, none⟩) hab, HC.out k hlt]
             have hbd := HB.out k hlt
             obtain ⟨x, hx⟩ : ∃ x, l.getD k 0 = x := ⟨_, rfl⟩
             rw [hx] at hck hbd
             have HX := Lib.hid hx
             clear hx
             obtain ⟨hx0, hx1⟩ := hbd
             obtain ⟨o, ho⟩ : ∃ o, ofI x = o := ⟨_, rfl⟩
             have HO := Lib.hid ho
             clear ho
             go_wp2_with fail
             refine (of_any x wr hx0 hx1).mono ?_
             rintro e w1 ⟨rfl, b1⟩
             rw [HO.out]
             have B1 := aside (BW.out.trans (b1.mono BW.out.size))
             clear b1 hck
             by_cases h0 : o = 0
             · have HP : Hid (plainAt l k = true) := by show _ = _; unfold plainAt; rw [HX.out, HO.out, h0]; rfl
               have q0 : (o != 0) = false := by simp [h0]
               clear h0
               go_wp2
               go_roundw
               case rel => exact ⟨k + 1, by go_num, by omega, B1.out, fun j hj => by
                 by_cases e : j = k
                 · rw [e]; exact HP.out
                 · exact HN.out j (by omega)⟩
               case measure => simp [intOf]; omega
             · have q0 : (o != 0) = true := by simp [h0]
               by_cases h4 : o = 4
               · have q4 : (o != 4) = false := by simp [h4]
                 by_cases hk0 : k = 0
                 · have HP : Hid (plainB l = false) := plain_no l k hlt (by unfold plainAt; rw [HX.out, HO.out, h4, hk0]; rfl)
                   have qk : ((k : Int) == 0) = true := by simp [hk0]
                   clear h0 h4 hk0
                   go_wp2
                   go_ret
                   exact ⟨ret_bool (by rw [← HR.out, HP.out]), B1.out⟩
                 · have HP : Hid (plainAt l k = true) := by show _ = _; unfold plainAt; rw [HX.out, HO.out, h4, decide_eq_true (by omega : 0 < k)]; rfl
                   have qk : ((k : Int) == 0) = false := by simp; omega
                   clear h0 h4 hk0
                   go_wp2
                   go_roundw
                   case rel => exact ⟨k + 1, by go_num, by omega, B1.out, fun j hj => by
                     by_cases e : j = k
                     · rw [e]; exact HP.out
                     · exact HN.out j (by omega)⟩
                   case measure => simp [intOf]; omega
               · have q4 : (o != 4) = true := by simp [h4]
                 have HP : Hid (plainB l = false) := plain_no l k hlt (by unfold plainAt; rw [HX.out, HO.out]; simp [h0, h4])
                 clear h0 h4
                 go_wp2
                 go_ret
                 exact ⟨ret_bool (by rw [← HR.out, HP.out]), B1.out⟩)
      · have HP := Lib.hid (plain_yes l (fun j hj => HN.out j (by omega)))
        go_wp2
        go_ret
        exact ⟨ret_bool (by rw [← HR.out, HP.out]), BW.out⟩

def itemI (j : Nat) (x : Int) : Int := if 25 < aroundI x 60 ∧ 0 < j then 768 + aroundI x 60 else 65 + aroundI x 60 % 26
def itemsL (l : List Int) (k : Nat) : List Int := (List.range k).map fun j => itemI j (l.getD j 0)
theorem itemsL_len (l : List Int) (k : Nat) : (itemsL l k).length = k := by simp [itemsL]
theorem itemsL_succ (l : List Int) (k : Nat) : itemsL l (k + 1) = itemsL l k ++ [itemI k (l.getD k 0)] := by simp [itemsL, List.range_succ]
theorem itemsL_get (l : List Int) (k j : Nat) (h : j < k) : (itemsL l k).getD j 0 = itemI j (l.getD j 0) := by simp [itemsL, h]
theorem item_cls (j : Nat) (x : Int) : ofI (itemI j x) = 0 ∨ (ofI (itemI j x) = 4 ∧ 0 < j) := by
  have hb := aroundI_bd x 60 (by omega)
  have H1 : ∀ k : Fin 26, ofI (65 + (k.val : Int)) = 0 := by decide +kernel
  have H2 : ∀ k : Fin 60, 25 < k.val → ofI (768 + (k.val : Int)) = 4 := by decide +kernel
  unfold itemI
  obtain ⟨q, hq⟩ : ∃ q : Nat, aroundI x 60 = (q : Int) := ⟨(aroundI x 60).toNat, by omega⟩
  rw [hq] at hb ⊢
  split
  · rename_i h
    right
    have := H2 ⟨q, by omega⟩ (by show 25 < q; omega)
    exact ⟨this, h.2⟩
  · left
    have := H1 ⟨q % 26, by omega⟩
    have e : ((q % 26 : Nat) : Int) = (q : Int) % 26 := by omega
    simp only [e] at this
    exact this
theorem item_bd (j : Nat) (x : Int) : 0 ≤ itemI j x ∧ itemI j x ≤ 1000 := by
  have hb := aroundI_bd x 60 (by omega)
  unfold itemI
  split <;> omega

end Go.Proofs.Ytaocnnebfnlgiaa
