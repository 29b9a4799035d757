/-
  The contract of the third reference's Kind.
-/
import Derived.Test.YtaocnnebfnlgiaaTable
import Derived.Test.YtaocnnebfnlgiaaBase
namespace Go.Proofs.Ytaocnnebfnlgiaa
open Go.RowKit

def findC (k : Int) : List (Int × Int × Int) → Option Int
  | [] => none
  | r :: t => if r.2.2 = k then some r.1 else findC k t
/-- Kind, plain. -/
def kindI (n : Int) : Int :=
  if aroundI n 15 = 12 then 44032 + 28 * (aroundI n 45 / 15)
  else if aroundI n 15 = 13 then 44033 + aroundI n 45 / 15
  else (findC (aroundI n 15) tbl).getD (65 + aroundI n 390 / 15)
theorem findC_bd : ∀ k : Fin 15, ∀ c, findC (k.val : Int) tbl = some c → 0 ≤ c ∧ c ≤ 200000 ∧ (c < 55296 ∨ 57343 < c) := by decide +kernel
theorem kindI_may (n : Int) : mayB (kindI n) = true := by
  have a := aroundI_bd n 15 (by omega)
  have b := aroundI_bd n 45 (by omega)
  have c := aroundI_bd n 390 (by omega)
  have h : 0 ≤ kindI n ∧ kindI n ≤ 1114111 ∧ (kindI n < 55296 ∨ 57343 < kindI n) := by
    unfold kindI
    split
    · omega
    · split
      · omega
      · cases hf : findC (aroundI n 15) tbl with
        | none => simp only [Option.getD_none]; omega
        | some x =>
          have := findC_bd ⟨(aroundI n 15).toNat, by omega⟩ x (by simp only; rw [show (((aroundI n 15).toNat : Nat) : Int) = aroundI n 15 by omega]; exact hf)
          simp only [Option.getD_some]
          omega
  simp [mayB]
  omega
theorem kindI_bd (n : Int) : 0 ≤ kindI n ∧ kindI n ≤ 1114111 := by
  have h := kindI_may n
  simp [mayB] at h
  omega
theorem findC_drop (k : Int) (j : Nat) (hj : j < tbl.length) : findC k (tbl.drop j) = if (tbl.getD j (0, 0, 0)).2.2 = k then some (tbl.getD j (0, 0, 0)).1 else findC k (tbl.drop (j + 1)) := by
  rw [List.drop_eq_getElem_cons hj]
  have e : tbl.getD j (0, 0, 0) = tbl[j] := by simp [hj]
  rw [e]
  rfl

set_option maxRecDepth 100000 in
set_option maxHeartbeats 2000000 in
theorem kind_any (n : Int) (w : World) (h0 : -9223372036854775808 ≤ n) (h1 : n ≤ 9223372036854775807) :
    Calls Try.prog 16 #[.int .i64 n] w fun e w' => e = .returned (.int .i64 (kindI n)) ∧ Below w.heap.size w w' := by
  have a := aroundI_bd n 15 (by omega)
  have b45 := aroundI_bd n 45 (by omega)
  have b390 := aroundI_bd n 390 (by omega)
  have C15 := Lib.hid (fun W : World => around_any n 15 W h0 h1 (by omega) (by omega))
  have C45 := Lib.hid (fun W : World => around_any n 45 W h0 h1 (by omega) (by omega))
  have C390 := Lib.hid (fun W : World => around_any n 390 W h0 h1 (by omega) (by omega))
  obtain ⟨r, hr⟩ : ∃ r, kindI n = r := ⟨_, rfl⟩
  have HRR := hr
  unfold kindI at HRR
  rw [hr]
  clear hr
  obtain ⟨k, hk⟩ : ∃ k, aroundI n 15 = k := ⟨_, rfl⟩
  obtain ⟨q45, h45⟩ : ∃ q, aroundI n 45 = q := ⟨_, rfl⟩
  obtain ⟨q390, h390⟩ : ∃ q, aroundI n 390 = q := ⟨_, rfl⟩
  rw [hk] at a C15 HRR
  rw [h45] at b45 C45 HRR
  rw [h390] at b390 C390 HRR
  clear hk h45 h390
  obtain ⟨a0, a1⟩ := a
  obtain ⟨b0, b1⟩ := b45
  obtain ⟨c0, c1⟩ := b390
  by_cases k12 : k = 12
  · subst k12
    rw [if_pos rfl] at HRR
    have HR := Lib.hid HRR
    clear HRR
    go_enter Try.func16, Try.ntmps16
    go_wp2_with fail
    refine (C15.out w).mono ?_
    rintro e w' ⟨rfl, rfl⟩
    go_wp2_with fail
    refine (C45.out w).mono ?_
    rintro e w' ⟨rfl, rfl⟩
    go_wp2
    go_ret
    exact ⟨ret_int HR.out, Below.refl _ _⟩
  · by_cases k13 : k = 13
    · subst k13
      rw [if_neg (by omega), if_pos rfl] at HRR
      have HR := Lib.hid HRR
      clear HRR k12
      go_enter Try.func16, Try.ntmps16
      go_wp2_with fail
      refine (C15.out w).mono ?_
      rintro e w' ⟨rfl, rfl⟩
      go_wp2_with fail
      refine (C45.out w).mono ?_
      rintro e w' ⟨rfl, rfl⟩
      go_wp2
      go_ret
      exact ⟨ret_int HR.out, Below.refl _ _⟩
    · rw [if_neg k12, if_neg k13] at HRR
      have HR := Lib.hid HRR
      have n12 : (k == 12) = false := by simpa using k12
      have n13 : (k == 13) = false := by simpa using k13
      clear HRR k12 k13
      go_enter Try.func16, Try.ntmps16
      go_wp2_with fail
      refine (C15.out w).mono ?_
      rintro e w' ⟨rfl, rfl⟩
      go_wp2_with fail
      refine (table_any w).mono ?_
      rintro e w1 ⟨v, rfl, ⟨b, rfl, hb, hcell⟩, hb1⟩
      have HC := Lib.hid hcell
      have B1 := aside hb1
      clear hcell hb1
      go_wp2_with fail
      go_loop [5] (fun i => ∃ j : Nat, i = .int .i64 j ∧ j ≤ 66 ∧ Hid (findC k (tbl.drop j) = findC k tbl)) (fun i => 66 - (intOf i).toNat)
      case atStart => exact ⟨0, rfl, by omega, rfl⟩
      case round =>
        obtain ⟨j, rfl, hj, HF⟩ := hrel
        by_cases hlt : j < 66
        · have hg := tcells_get tbl j (by rw [tbl_len]; exact hlt)
          have d0 := HC.out _ _ hg.1
          have d1 := HC.out _ _ hg.2.1
          have d2 := HC.out _ _ hg.2.2
          have hfd := findC_drop k j (by rw [tbl_len]; exact hlt)
          obtain ⟨⟨x, y, z⟩, ht⟩ : ∃ t, tbl.getD j (0, 0, 0) = t := ⟨_, rfl⟩
          rw [ht] at d0 d1 d2 hfd
          simp only at d0 d1 d2 hfd
          have HFD := Lib.hid hfd
          clear hfd hg ht
          by_cases hz : z = k
          · have hz' : (z == k) = true := by simpa using hz
            have HX : Hid (x = r) := by
              have h := HF.out
              rw [HFD.out, if_pos hz] at h
              have h2 := HR.out
              rw [← h] at h2
              exact h2
            clear hz
            go_wp2
            go_ret
            exact ⟨ret_int HX.out, B1.out⟩
          · have hz' : (z == k) = false := by simpa using hz
            have HX : Hid (findC k (tbl.drop (j + 1)) = findC k tbl) := by
              have h := HF.out
              rw [HFD.out, if_neg hz] at h
              exact h
            clear hz
            go_wp2
            go_round
            case rel => exact ⟨j + 1, by go_num, by omega, HX⟩
            case measure => simp [intOf]; omega
        · have HX : Hid (65 + q390 / 15 = r) := by
            have h := HF.out
            rw [show j = 66 by omega] at h
            have h2 := HR.out
            rw [← h] at h2
            exact h2
          go_wp2_with fail
          refine (C390.out w1).mono ?_
          rintro e w' ⟨rfl, rfl⟩
          go_wp2
          go_ret
          exact ⟨ret_int HX.out, B1.out⟩

end Go.Proofs.Ytaocnnebfnlgiaa
