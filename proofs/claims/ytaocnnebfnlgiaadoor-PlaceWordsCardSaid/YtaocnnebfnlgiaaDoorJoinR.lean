/-
  The contract of the third reference's Joined.
-/
import Derived.Test.YtaocnnebfnlgiaaDoorReadP
import Derived.Test.YtaocnnebfnlgiaaDoorTable
import Derived.Test.YtaocnnebfnlgiaaDoorOwn
namespace Go.Proofs.YtaocnnebfnlgiaaDoor
open Go.RowKit

set_option maxHeartbeats 400000 in
theorem ends_any (k : Int) (w : World) : Calls Tryd.prog 33 #[.int .i64 k] w fun e w' => e = .returned (.bool (brkB k)) ∧ w = w' := by
  by_cases h : k = 1 ∨ k = 2 ∨ k = 3
  · rcases h with rfl | rfl | rfl
    all_goals
      go_enter Tryd.func33, Tryd.ntmps33
      go_wp2
      go_ret
      exact ⟨rfl, rfl⟩
  · have HR : Hid (brkB k = false) := by show _ = _; simp only [brkB]; exact decide_eq_false h
    have n1 : (k == 1) = false := beq_eq_false_iff_ne.2 (fun e => h (.inl e))
    have n2 : (k == 2) = false := beq_eq_false_iff_ne.2 (fun e => h (.inr (.inl e)))
    have n3 : (k == 3) = false := beq_eq_false_iff_ne.2 (fun e => h (.inr (.inr e)))
    clear h
    go_enter Tryd.func33, Tryd.ntmps33
    go_wp2
    go_ret
    exact ⟨ret_bool (by rw [HR.out]), rfl⟩

set_option maxHeartbeats 1000000 in
theorem rhangul_any (a b : Int) (w : World) : Calls Tryd.prog 34 #[.int .i64 a, .int .i64 b] w fun e w' => e = .returned (.bool (hglB a b)) ∧ w = w' := by
  by_cases h : a = 9 ∨ a = 12 ∨ a = 10 ∨ a = 13 ∨ a = 11
  · by_cases hb : b = 9 ∨ b = 10 ∨ b = 11 ∨ b = 12 ∨ b = 13
    · rcases hb with rfl | rfl | rfl | rfl | rfl
      all_goals
        rcases h with rfl | rfl | rfl | rfl | rfl
        all_goals
          go_enter Tryd.func34, Tryd.ntmps34
          go_wp2
          go_ret
          exact ⟨rfl, rfl⟩
    · have n9 : (b == 9) = false := beq_eq_false_iff_ne.2 (fun e => hb (.inl e))
      have n10 : (b == 10) = false := beq_eq_false_iff_ne.2 (fun e => hb (.inr (.inl e)))
      have n11 : (b == 11) = false := beq_eq_false_iff_ne.2 (fun e => hb (.inr (.inr (.inl e))))
      have n12 : (b == 12) = false := beq_eq_false_iff_ne.2 (fun e => hb (.inr (.inr (.inr (.inl e)))))
      have n13 : (b == 13) = false := beq_eq_false_iff_ne.2 (fun e => hb (.inr (.inr (.inr (.inr e)))))
      have HR : Hid (hglB a b = false) := by
        show _ = _
        have e9 : ¬ b = 9 := fun e => hb (.inl e)
        have e10 : ¬ b = 10 := fun e => hb (.inr (.inl e))
        have e11 : ¬ b = 11 := fun e => hb (.inr (.inr (.inl e)))
        have e12 : ¬ b = 12 := fun e => hb (.inr (.inr (.inr (.inl e))))
        have e13 : ¬ b = 13 := fun e => hb (.inr (.inr (.inr (.inr e))))
        simp [hglB, e9, e10, e11, e12, e13]
      clear hb
      rcases h with rfl | rfl | rfl | rfl | rfl
      all_goals
        go_enter Tryd.func34, Tryd.ntmps34
        go_wp2
        go_ret
        exact ⟨ret_bool (by rw [HR.out]), rfl⟩
  · have HR : Hid (hglB a b = false) := by
      show _ = _
      have e9 : ¬ a = 9 := fun e => h (.inl e)
      have e12 : ¬ a = 12 := fun e => h (.inr (.inl e))
      have e10 : ¬ a = 10 := fun e => h (.inr (.inr (.inl e)))
      have e13 : ¬ a = 13 := fun e => h (.inr (.inr (.inr (.inl e))))
      have e11 : ¬ a = 11 := fun e => h (.inr (.inr (.inr (.inr e))))
      simp [hglB, e9, e10, e11, e12, e13]
    have n9 : (a == 9) = false := beq_eq_false_iff_ne.2 (fun e => h (.inl e))
    have n12 : (a == 12) = false := beq_eq_false_iff_ne.2 (fun e => h (.inr (.inl e)))
    have n10 : (a == 10) = false := beq_eq_false_iff_ne.2 (fun e => h (.inr (.inr (.inl e))))
    have n13 : (a == 13) = false := beq_eq_false_iff_ne.2 (fun e => h (.inr (.inr (.inr (.inl e)))))
    have n11 : (a == 11) = false := beq_eq_false_iff_ne.2 (fun e => h (.inr (.inr (.inr (.inr e)))))
    clear h
    go_enter Tryd.func34, Tryd.ntmps34
    go_wp2
    go_ret
    exact ⟨ret_bool (by rw [HR.out]), rfl⟩

/-- The classes of the first m, turned round. -/
def clsR (l : List Int) (m : Nat) : List Int := ((l.take m).map ofI).reverse
theorem clsR_succ (l : List Int) (m : Nat) (hm : m < l.length) : clsR l (m + 1) = ofI (l.getD m 0) :: clsR l m := by
  unfold clsR
  rw [List.take_succ_eq_append_getElem hm, List.map_append, List.reverse_append]
  simp [hm]
theorem clsR_zero (l : List Int) : clsR l 0 = [] := rfl

set_option maxRecDepth 100000 in
set_option maxHeartbeats 6000000 in
theorem rjoined_any (l : List Int) (v : Value) (c : Int) (w : World) (hv : IsInts w v l) (hl : l.length ≤ 1000) :
    Calls Tryd.prog 22 #[v, .int .i64 c] w fun e w' => e = .returned (.bool (joinR (clsR l l.length) (ofI c))) ∧ Below w.heap.size w w' := by
  obtain ⟨A, ca, rfl, hca1, hca2, hA⟩ := hv
  by_cases h0 : 0 < l.length
  · obtain ⟨b, off, rfl, hcell⟩ := hA h0
    have HC : Hid (∀ W' : World, Below w.heap.size w W' → ∀ j, j < l.length → W'.cell? ⟨b, off + j, none⟩ = some (.int .i64 (l.getD j 0))) := by
      intro W' hb j hj
      have := hcell j hj
      rw [hb.cell (p := ⟨b, off + j, none⟩) (World.block_lt_of_cell? _ _ this)]
      exact this
    have d0 := HC.out w (Below.refl _ _) (l.length - 1) (by omega)
    have hR := clsR_succ l (l.length - 1) (by omega)
    rw [show l.length - 1 + 1 = l.length by omega] at hR
    obtain ⟨x, hx⟩ : ∃ x, l.getD (l.length - 1) 0 = x := ⟨_, rfl⟩
    rw [hx] at d0 hR
    have CL := Lib.hid (fun W : World => rof_any x W)
    have CK := Lib.hid (fun W : World => rof_any c W)
    have hlb := ofI_bd x
    have hkb := ofI_bd c
    obtain ⟨la, hla⟩ : ∃ la, ofI x = la := ⟨_, rfl⟩
    obtain ⟨k, hk⟩ : ∃ k, ofI c = k := ⟨_, rfl⟩
    rw [hla] at CL hR hlb
    rw [hk] at CK hkb ⊢
    obtain ⟨hlb0, hlb1⟩ := hlb
    obtain ⟨hkb0, hkb1⟩ := hkb
    have HR := Lib.hid hR
    have hz : ((l.length : Int) == 0) = false := beq_eq_false_iff_ne.2 (by omega)
    have CE1 := fun W : World => ends_any la W
    have CE2 := fun W : World => ends_any k W
    have CH := fun W : World => rhangul_any la k W
    clear hA hcell hx hla hk hR
    rw [HR.out]
    obtain ⟨r', hr'⟩ : ∃ r', clsR l (l.length - 1) = r' := ⟨_, rfl⟩
    have HRR := Lib.hid hr'
    rw [hr'] at HR ⊢
    clear hr'
    obtain ⟨res, hres⟩ : ∃ res, joinR (la :: r') k = res := ⟨_, rfl⟩
    have HRES := Lib.hid hres
    rw [hres]
    clear hres
    go_enter Tryd.func22, Tryd.ntmps22
    go_wp2_with fail
    refine (CL.out w).mono ?_
    rintro e w1 ⟨rfl, b1⟩
    have B1 := aside b1
    clear b1 d0
    go_wp2_with fail
    refine (CK.out w1).mono ?_
    rintro e w2 ⟨rfl, b2⟩
    have B2 := aside (B1.out.trans (b2.mono B1.out.size))
    clear b2
    by_cases l1 : la = 1
    · subst l1
      rw [show brkB 1 = true from rfl] at CE1
      by_cases k2 : k = 2
      · subst k2
        have e : joinR (1 :: r') 2 = true := by simp [joinR]
        rw [e] at HRES
        clear e
        go_wp2_with (first
          | (go_at_call 33; first | (with_reducible refine (CE1 _).mono ?_) | (with_reducible refine (CE2 _).mono ?_)
             rintro e w' ⟨rfl, rfl⟩)
          | (go_at_call 34; refine (CH _).mono ?_; rintro e w' ⟨rfl, rfl⟩))
        go_ret
        exact ⟨ret_bool HRES.out, B2.out⟩
      · have eb : brkB 1 = true := rfl
        have e : joinR (1 :: r') k = false := by simp [joinR, k2, eb]
        rw [e] at HRES
        have n2 : (k == 2) = false := by simpa using k2
        clear k2 e eb
        go_wp2_with (first
          | (go_at_call 33; first | (with_reducible refine (CE1 _).mono ?_) | (with_reducible refine (CE2 _).mono ?_)
             rintro e w' ⟨rfl, rfl⟩)
          | (go_at_call 34; refine (CH _).mono ?_; rintro e w' ⟨rfl, rfl⟩))
        go_ret
        exact ⟨ret_bool HRES.out, B2.out⟩
    · have m1 : (la == 1) = false := by simpa using l1
      by_cases bl : brkB la = true
      · have e : joinR (la :: r') k = false := by simp [joinR, l1, bl]
        rw [e] at HRES
        rw [bl] at CE1
        clear bl l1 e
        go_wp2_with (first
          | (go_at_call 33; first | (with_reducible refine (CE1 _).mono ?_) | (with_reducible refine (CE2 _).mono ?_)
             rintro e w' ⟨rfl, rfl⟩)
          | (go_at_call 34; refine (CH _).mono ?_; rintro e w' ⟨rfl, rfl⟩))
        go_ret
        exact ⟨ret_bool HRES.out, B2.out⟩
      · have bl' : brkB la = false := by simpa using bl
        rw [bl'] at CE1
        by_cases bk : brkB k = true
        · have e : joinR (la :: r') k = false := by simp [joinR, l1, bk]
          rw [e] at HRES
          rw [bk] at CE2
          clear bl bl' l1 bk e
          go_wp2_with (first
            | (go_at_call 33; first | (with_reducible refine (CE1 _).mono ?_) | (with_reducible refine (CE2 _).mono ?_)
               rintro e w' ⟨rfl, rfl⟩)
            | (go_at_call 34; refine (CH _).mono ?_; rintro e w' ⟨rfl, rfl⟩))
          go_ret
          exact ⟨ret_bool HRES.out, B2.out⟩
        · have bk' : brkB k = false := by simpa using bk
          rw [bk'] at CE2
          by_cases hg : hglB la k = true
          · have e : joinR (la :: r') k = true := by simp [joinR, l1, bl', bk', hg]
            rw [e] at HRES
            rw [hg] at CH
            clear bl bl' l1 bk bk' hg e
            go_wp2_with (first
              | (go_at_call 33; first | (with_reducible refine (CE1 _).mono ?_) | (with_reducible refine (CE2 _).mono ?_)
                 rintro e w' ⟨rfl, rfl⟩)
              | (go_at_call 34; refine (CH _).mono ?_; rintro e w' ⟨rfl, rfl⟩))
            go_ret
            exact ⟨ret_bool HRES.out, B2.out⟩
          · have hg' : hglB la k = false := by simpa using hg
            rw [hg'] at CH
            by_cases k4 : k = 4
            · subst k4
              have e : joinR (la :: r') 4 = true := by simp [joinR, l1, bl', bk', hg']
              rw [e] at HRES
              clear bl bl' l1 bk bk' hg hg' e
              go_wp2_with (first
                | (go_at_call 33; first | (with_reducible refine (CE1 _).mono ?_) | (with_reducible refine (CE2 _).mono ?_)
                   rintro e w' ⟨rfl, rfl⟩)
                | (go_at_call 34; refine (CH _).mono ?_; rintro e w' ⟨rfl, rfl⟩))
              go_ret
              exact ⟨ret_bool HRES.out, B2.out⟩
            · have n4 : (k == 4) = false := by simpa using k4
              by_cases k5 : k = 5
              · subst k5
                have e : joinR (la :: r') 5 = true := by simp [joinR, l1, bl', bk', hg']
                rw [e] at HRES
                clear bl bl' l1 bk bk' hg hg' e
                go_wp2_with (first
                  | (go_at_call 33; first | (with_reducible refine (CE1 _).mono ?_) | (with_reducible refine (CE2 _).mono ?_)
                     rintro e w' ⟨rfl, rfl⟩)
                  | (go_at_call 34; refine (CH _).mono ?_; rintro e w' ⟨rfl, rfl⟩))
                go_ret
                exact ⟨ret_bool HRES.out, B2.out⟩
              · have n5 : (k == 5) = false := by simpa using k5
                by_cases k8 : k = 8
                · subst k8
                  have e : joinR (la :: r') 8 = true := by simp [joinR, l1, bl', bk', hg']
                  rw [e] at HRES
                  clear bl bl' l1 bk bk' hg hg' e
                  go_wp2_with (first
                    | (go_at_call 33; first | (with_reducible refine (CE1 _).mono ?_) | (with_reducible refine (CE2 _).mono ?_)
                       rintro e w' ⟨rfl, rfl⟩)
                    | (go_at_call 34; refine (CH _).mono ?_; rintro e w' ⟨rfl, rfl⟩))
                  go_ret
                  exact ⟨ret_bool HRES.out, B2.out⟩
                · have n8 : (k == 8) = false := by simpa using k8
                  by_cases l7 : la = 7
                  · subst l7
                    have e : joinR (7 :: r') k = true := by simp [joinR, bl', bk']
                    rw [e] at HRES
                    clear bl bl' l1 bk bk' hg hg' k4 k5 k8 e
                    go_wp2_with (first
                      | (go_at_call 33; first | (with_reducible refine (CE1 _).mono ?_) | (with_reducible refine (CE2 _).mono ?_)
                         rintro e w' ⟨rfl, rfl⟩)
                      | (go_at_call 34; refine (CH _).mono ?_; rintro e w' ⟨rfl, rfl⟩))
                    go_ret
                    exact ⟨ret_bool HRES.out, B2.out⟩
                  · have m7 : (la == 7) = false := by simpa using l7
                    by_cases lk : la = 5 ∧ k = 14
                    · obtain ⟨rfl, rfl⟩ := lk
                      have e : joinR (5 :: r') 14 = pict r' := by simp [joinR, bl', bk', hg']
                      rw [e, ← HRR.out] at HRES
                      clear bl bl' l1 bk bk' hg hg' k4 k5 k8 l7 e
                      go_wp2_with (first
                        | (go_at_call 33; first | (with_reducible refine (CE1 _).mono ?_) | (with_reducible refine (CE2 _).mono ?_)
                           rintro e w' ⟨rfl, rfl⟩)
                        | (go_at_call 34; refine (CH _).mono ?_; rintro e w' ⟨rfl, rfl⟩))
                      go_loopw [7] (fun i wr => ∃ m : Nat, i = .int .i64 ((m : Int) - 1) ∧ m ≤ l.length - 1 ∧ Hid (pict (clsR l m) = res) ∧ Aside (Below w.heap.size w wr)) (fun i _ => (intOf i + 1).toNat)
                      case atStart => exact ⟨l.length - 1, by congr 1; omega, by omega, HRES, B2.out⟩
                      case round =>
                        obtain ⟨m, rfl, hm, HP, HX⟩ := hrel
                        by_cases hm1 : 1 ≤ m
                        · obtain ⟨mm, hmm⟩ : ∃ mm, m = mm + 1 := ⟨m - 1, by omega⟩
                          have hc1 := HC.out wr HX.out mm (by omega)
                          have hcs := clsR_succ l mm (by omega)
                          rw [← hmm] at hcs
                          have hidx : (max ((m : Int) - 1) 0).toNat = mm := by omega
                          obtain ⟨y, hy⟩ : ∃ y, l.getD mm 0 = y := ⟨_, rfl⟩
                          rw [hy] at hc1 hcs
                          have hidx2 : m - 1 = mm := by omega
                          have hc1b := hc1
                          rw [← hidx2] at hc1b
                          rw [← hidx] at hc1
                          have HCY := Lib.hid (fun W : World => rof_any y W)
                          obtain ⟨z, hz2⟩ : ∃ z, ofI y = z := ⟨_, rfl⟩
                          rw [hz2] at HCY hcs
                          have hpp := HP.out
                          rw [hcs] at hpp
                          have HPP := Lib.hid hpp
                          have HCM : Hid (∀ W' : World, Below w.heap.size w W' → W'.cell? ⟨b, off + (max ((m : Int) - 1) 0).toNat, none⟩ = some (.int .i64 y)) := by
                            intro W' hb
                            rw [hidx, ← hy]
                            exact HC.out W' hb mm (by omega)
                          have HCM2 : Hid (∀ W' : World, Below w.heap.size w W' → W'.cell? ⟨b, off + (m - 1), none⟩ = some (.int .i64 y)) := by
                            intro W' hb
                            rw [hidx2, ← hy]
                            exact HC.out W' hb mm (by omega)
                          have HMM := Lib.hid hmm
                          clear hy hz2 hcs hpp hmm hidx hidx2
                          by_cases h4 : z = 4
                          · subst h4
                            have HP2 : Hid (pict (clsR l mm) = res) := HPP.out
                            go_wp2_with fail
                            refine (HCY.out wr).mono ?_
                            rintro e w3 ⟨rfl, b3⟩
                            have X3 := aside (HX.out.trans (b3.mono HX.out.size))
                            clear b3
                            go_wp2_with fail
                            go_roundw
                            case rel => exact ⟨mm, by have := HMM.out; congr 1; omega, by have := HMM.out; omega, HP2, X3⟩
                            case measure => have := HMM.out; simp [intOf]; omega
                          · have n4' : (z == 4) = false := by simpa using h4
                            have HP2 : Hid ((z == 14) = res) := by
                              have h := HPP.out
                              show _ = _
                              rw [← h]
                              show _ = (if z = 4 then _ else _)
                              rw [if_neg h4]
                              rfl
                            clear h4
                            go_wp2_with fail
                            refine (HCY.out wr).mono ?_
                            rintro e w3 ⟨rfl, b3⟩
                            have X3 := aside (HX.out.trans (b3.mono HX.out.size))
                            have hc3 := HCM.out w3 X3.out
                            have hc3b := HCM2.out w3 X3.out
                            clear b3 hc1 hc1b
                            go_wp2_with fail
                            refine (HCY.out w3).mono ?_
                            rintro e w4 ⟨rfl, b4⟩
                            have X4 := aside (X3.out.trans (b4.mono X3.out.size))
                            clear b4
                            go_wp2_with fail
                            go_ret
                            exact ⟨ret_bool HP2.out, X4.out⟩
                        · obtain rfl : m = 0 := by omega
                          have HP2 : Hid (false = res) := HP.out
                          go_wp2_with fail
                          go_ret
                          exact ⟨ret_bool HP2.out, HX.out⟩
                    · have e : joinR (la :: r') k = (decide (k = 6) && (sixes (la :: r') % 2 == 1)) := by simp [joinR, l1, bl', bk', hg', k4, k5, k8, l7, lk]
                      rw [e, ← HR.out] at HRES
                      have hlk : (la == 5) = false ∨ ((la == 5) = true ∧ (k == 14) = false) := by
                        by_cases h5 : la = 5
                        · exact .inr ⟨by simpa using h5, by simp; exact fun h => lk ⟨h5, h⟩⟩
                        · exact .inl (by simpa using h5)
                      clear bl bl' l1 bk bk' hg hg' k4 k5 k8 l7 lk e
                      rcases hlk with m5 | ⟨m5, n14⟩
                      all_goals
                        go_wp2_with (first
                          | (go_at_call 33; first | (with_reducible refine (CE1 _).mono ?_) | (with_reducible refine (CE2 _).mono ?_)
                             rintro e w' ⟨rfl, rfl⟩)
                          | (go_at_call 34; refine (CH _).mono ?_; rintro e w' ⟨rfl, rfl⟩))
                        go_loopw [8, 9] (fun n i wr => ∃ m q : Nat, n = .int .i64 (q : Int) ∧ i = .int .i64 ((m : Int) - 1) ∧ m ≤ l.length ∧ q + m ≤ l.length ∧ Hid (q + sixes (clsR l m) = sixes (clsR l l.length)) ∧ Aside (Below w.heap.size w wr)) (fun _ i _ => (intOf i + 1).toNat)
                        case atStart => exact ⟨l.length, 0, rfl, rfl, by omega, by omega, by show _ = _; omega, B2.out⟩
                        case round =>
                          obtain ⟨m, q, rfl, rfl, hm, hq, HQ, HX⟩ := hrel
                          have hfin : ∀ qq : Nat, qq = sixes (clsR l l.length) → Hid (((k = 6) → ((qq : Int) % 2 == 1) = res) ∧ (¬ k = 6 → false = res)) := by
                            intro qq hqq
                            have h := HRES.out
                            rw [← hqq] at h
                            refine ⟨fun h6 => ?_, fun h6 => ?_⟩
                            · rw [← h, h6]
                              simp only [decide_true, Bool.true_and]
                              rw [Bool.eq_iff_iff]
                              simp
                              omega
                            · rw [← h, decide_eq_false h6]; rfl
                          by_cases hm1 : 1 ≤ m
                          · obtain ⟨mm, hmm⟩ : ∃ mm, m = mm + 1 := ⟨m - 1, by omega⟩
                            have hc1 := HC.out wr HX.out mm (by omega)
                            have hcs := clsR_succ l mm (by omega)
                            rw [← hmm] at hcs
                            have hidx : m - 1 = mm := by omega
                            obtain ⟨y, hy⟩ : ∃ y, l.getD mm 0 = y := ⟨_, rfl⟩
                            rw [hy] at hc1 hcs
                            rw [← hidx] at hc1
                            have HCY := Lib.hid (fun W : World => rof_any y W)
                            obtain ⟨z, hz2⟩ : ∃ z, ofI y = z := ⟨_, rfl⟩
                            rw [hz2] at HCY hcs
                            have hpp := HQ.out
                            rw [hcs] at hpp
                            have HPP := Lib.hid hpp
                            have HMM := Lib.hid hmm
                            clear hy hz2 hcs hpp hmm hidx
                            by_cases h6 : z = 6
                            · subst h6
                              have HP2 : Hid ((q + 1) + sixes (clsR l mm) = sixes (clsR l l.length)) := by
                                have h := HPP.out
                                show _ = _
                                rw [← h]
                                show _ = q + (if (6 : Int) = 6 then sixes (clsR l mm) + 1 else 0)
                                rw [if_pos rfl]
                                omega
                              clear hfin
                              go_wp2_with fail
                              refine (HCY.out wr).mono ?_
                              rintro e w3 ⟨rfl, b3⟩
                              have X3 := aside (HX.out.trans (b3.mono HX.out.size))
                              clear b3
                              go_wp2_with fail
                              go_roundw
                              case rel => exact ⟨mm, q + 1, by go_num, by have := HMM.out; congr 1; omega, by have := HMM.out; omega, by have := HMM.out; omega, HP2, X3⟩
                              case measure => have := HMM.out; simp [intOf]; omega
                            · have n6' : (z != 6) = true := by simpa using h6
                              have HQF := hfin q (by
                                have h := HPP.out
                                rw [← h]
                                show q = q + (if z = 6 then _ else 0)
                                simp [h6])
                              clear h6 hfin
                              by_cases k6 : k = 6
                              · have HF := Lib.hid (HQF.out.1 k6)
                                have k6' : (k == 6) = true := by simpa using k6
                                clear k6 HQF
                                go_wp2_with fail
                                refine (HCY.out wr).mono ?_
                                rintro e w3 ⟨rfl, b3⟩
                                have X3 := aside (HX.out.trans (b3.mono HX.out.size))
                                clear b3
                                go_wp2_with fail
                                go_ret
                                exact ⟨ret_bool HF.out, X3.out⟩
                              · have HF := Lib.hid (HQF.out.2 k6)
                                have k6' : (k == 6) = false := by simpa using k6
                                clear k6 HQF
                                go_wp2_with fail
                                refine (HCY.out wr).mono ?_
                                rintro e w3 ⟨rfl, b3⟩
                                have X3 := aside (HX.out.trans (b3.mono HX.out.size))
                                clear b3
                                go_wp2_with fail
                                go_ret
                                exact ⟨ret_bool HF.out, X3.out⟩
                          · obtain rfl : m = 0 := by omega
                            have HQF := hfin q HQ.out
                            clear hfin
                            by_cases k6 : k = 6
                            · have HF := Lib.hid (HQF.out.1 k6)
                              have k6' : (k == 6) = true := by simpa using k6
                              clear k6 HQF
                              go_wp2_with fail
                              go_ret
                              exact ⟨ret_bool HF.out, HX.out⟩
                            · have HF := Lib.hid (HQF.out.2 k6)
                              have k6' : (k == 6) = false := by simpa using k6
                              clear k6 HQF
                              go_wp2_with fail
                              go_ret
                              exact ⟨ret_bool HF.out, HX.out⟩
  · obtain rfl : l = [] := List.eq_nil_of_length_eq_zero (by omega)
    clear hA h0
    go_enter Tryd.func22, Tryd.ntmps22
    go_wp2
    go_ret
    exact ⟨rfl, Below.refl _ _⟩

end Go.Proofs.YtaocnnebfnlgiaaDoor
