/-
  Contracts of the first reference: First; All.
-/
import Derived.Test.YtaocnnebfnlgiaaDoorRef1
import Derived.Lib.IndexBytes
namespace Go.Proofs.YtaocnnebfnlgiaaDoor
open Go.RowKit

/-- First, plain. -/
def firstS (s : ByteArray) : Int × Int × Bool := if s.size = 0 then (0, 0, false) else firstD s.data.toList
def tup3 (r : Int × Int × Bool) : Value := .tuple #[.int .i64 r.1, .int .i64 r.2.1, .bool r.2.2]
theorem ret_tup {a b : Value} (h : a = b) : Ending.returned a = .returned b := by rw [h]

theorem firstFrom_step (l : List UInt8) (k : Nat) (hk : k ≤ 4) (hl : k ≤ l.length) : firstFrom l (5 - k) k = if refEnc (valueL (l.take k)) = l.take k then (valueL (l.take k), (k : Int), true) else firstFrom l (5 - (k + 1)) (k + 1) := by
  obtain ⟨f, hf⟩ : ∃ f, 5 - k = f + 1 := ⟨4 - k, by omega⟩
  rw [hf, show 5 - (k + 1) = f by omega]
  show (if k ≤ 4 ∧ k ≤ l.length then _ else _) = _
  rw [if_pos ⟨hk, hl⟩]
theorem firstFrom_stop (l : List UInt8) (k : Nat) (h : 4 < k ∨ l.length < k) : firstFrom l (5 - k) k = (65533, 1, false) := by
  cases hf : 5 - k with
  | zero => rfl
  | succ f =>
    show (if k ≤ 4 ∧ k ≤ l.length then _ else _) = _
    rw [if_neg (by omega)]

theorem pre_list (s : ByteArray) (k : Nat) : (s.extract 0 k).data.toList = s.data.toList.take k := by rw [Lib.extract_data]; simp
theorem suf_list (s : ByteArray) (k : Nat) : (s.extract k s.size).data.toList = s.data.toList.drop k := Lib.extract_to_end s k
theorem size_pre (s : ByteArray) (k : Nat) (h : k ≤ s.size) : (s.extract 0 k).size = k := by
  have := congrArg List.length (pre_list s k)
  simp at this
  simp [ByteArray.size_extract]; omega
theorem ba_ext {a b : ByteArray} (h : a.data.toList = b.data.toList) : a = b := by
  cases a; cases b; simp at h; rw [h]
theorem ba_list (s : ByteArray) : (⟨s.data.toList.toArray⟩ : ByteArray) = s := by cases s; simp

set_option maxHeartbeats 2000000 in
theorem rfirst_any (s : ByteArray) (w : World) (hs : s.size ≤ 9223372036854775807) :
    Calls Tryd.prog 26 #[.string s] w fun e w' => e = .returned (tup3 (firstS s)) ∧ Below w.heap.size w w' := by
  by_cases h0 : s.size = 0
  · have hF : Hid (firstS s = (0, 0, false)) := by show _ = _; simp [firstS, h0]
    obtain rfl : s = ⟨#[]⟩ := by
      cases s; simp [ByteArray.size] at h0; simp [h0]
    go_enter Tryd.func26, Tryd.ntmps26
    go_wp2
    go_ret3
    exact ⟨ret_tup (by rw [hF.out]; rfl), Below.refl _ _⟩
  · have hne : s.data.toList ≠ [] := by
      intro h; apply h0
      have : s.data.toList.length = 0 := by rw [h]; rfl
      simpa using this
    have HF : Hid (firstFrom s.data.toList 4 1 = firstS s) := by
      show _ = _
      rw [first_eq _ hne]; simp [firstS, h0]
    have hlen : Hid (s.data.toList.length = s.size) := by show _ = _; simp
    have hpos : 0 < s.size := by omega
    have hz1 : s.toList.isEmpty = false := by rw [ByteArray.toList_eq]; simpa using hne
    clear h0 hne
    go_enter Tryd.func26, Tryd.ntmps26
    go_wp2
    go_loopw [5] (fun n wr => ∃ k : Nat, n = .int .i64 k ∧ 1 ≤ k ∧ k ≤ 5 ∧ Hid (firstFrom s.data.toList (5 - k) k = firstS s) ∧ Aside (Below w.heap.size w wr)) (fun n _ => 5 - (intOf n).toNat)
    case atStart => exact ⟨1, rfl, by omega, by omega, HF, Below.refl _ _⟩
    case round =>
      obtain ⟨k, rfl, hk1, hk5, HK, HB⟩ := hrel
      by_cases h4 : k ≤ 4
      · by_cases hl : k ≤ s.size
        · have hs1 := size_pre s k hl
          have hl1 := pre_list s k
          have hst := firstFrom_step s.data.toList k h4 (by rw [hlen.out]; exact hl)
          have HST := Lib.hid hst
          clear hst
          obtain ⟨t, ht⟩ : ∃ t, s.extract 0 k = t := ⟨_, rfl⟩
          rw [ht] at hs1 hl1
          have HT := Lib.hid ht
          have hvb := value_bd t.data.toList (by simp; omega) (by simp; omega)
          obtain ⟨v, hv⟩ : ∃ v, valueL t.data.toList = v := ⟨_, rfl⟩
          rw [hv] at hvb
          have HV := Lib.hid hv
          have HL1 := Lib.hid hl1
          obtain ⟨hv0, hv1⟩ := hvb
          have ht1 : 1 ≤ t.size := by omega
          have ht4 : t.size ≤ 4 := by omega
          have HS1 := Lib.hid hs1
          clear hv ht hs1 hl1
          go_wp2_with fail
          rw [HT.out]
          refine (value_any t wr ht1 ht4).mono ?_
          rintro e w1 ⟨rfl, rfl⟩
          rw [HV.out]
          go_wp2_with fail
          have CE := fun W : World => renc_any v W
          obtain ⟨re, hre⟩ : ∃ re, refEnc v = re := ⟨_, rfl⟩
          rw [hre] at CE
          have HRE := Lib.hid hre
          clear hre
          have hcs : (Hid (re = t.data.toList) ∧ (re == (s.extract 0 k).toList) = true) ∨ (Hid (re ≠ t.data.toList) ∧ (re == (s.extract 0 k).toList) = false) := by
            rw [HT.out, ByteArray.toList_eq]
            by_cases h : re = t.data.toList
            · exact .inl ⟨h, by simpa using h⟩
            · exact .inr ⟨h, by simpa using h⟩
          rcases hcs with ⟨hc, hq⟩ | ⟨hc, hq⟩
          · have HR : Hid (firstS s = (v, (k : Int), true)) := by
              show _ = _
              rw [← HK.out, HST.out, ← HL1.out, HV.out, HRE.out, if_pos hc.out]
            refine wp_region_quiet_below (by kernel_rfl) (by kernel_rfl) ?_
            repeat (go_big_quiet_step ((go_at_call 39; exact Calls.regrown_of (CE _))))
            refine wpQuiet_nil ?_
            intro _ hw'
            obtain ⟨⟨dq, osq⟩, hw''⟩ := hw'
            subst hw''
            have HB2 := aside (HB.out.trans ((below_regrown wr dq osq).mono HB.out.size))
            generalize Go.Sort.grow (redrawn wr dq) osq = w2 at HB2 ⊢
            go_wp2
            go_ret3
            exact ⟨ret_tup (by rw [HR.out]; rfl), HB2.out⟩
          · have HR : Hid (firstFrom s.data.toList (5 - (k + 1)) (k + 1) = firstS s) := by
              show _ = _
              rw [← HK.out, HST.out, ← HL1.out, HV.out, HRE.out, if_neg hc.out]
            refine wp_region_quiet_below (by kernel_rfl) (by kernel_rfl) ?_
            repeat (go_big_quiet_step ((go_at_call 39; exact Calls.regrown_of (CE _))))
            refine wpQuiet_nil ?_
            intro _ hw'
            obtain ⟨⟨dq, osq⟩, hw''⟩ := hw'
            subst hw''
            have HB2 := aside (HB.out.trans ((below_regrown wr dq osq).mono HB.out.size))
            generalize Go.Sort.grow (redrawn wr dq) osq = w2 at HB2 ⊢
            go_wp2
            go_roundw
            case rel => exact ⟨k + 1, by go_num, by omega, by omega, HR, HB2⟩
            case measure => simp [intOf]; omega
        · have HR : Hid (firstS s = (65533, 1, false)) := by
            show _ = _
            rw [← HK.out]; exact firstFrom_stop _ _ (.inr (by rw [hlen.out]; omega))
          go_wp2
          go_ret3
          exact ⟨ret_tup (by rw [HR.out]; rfl), HB.out⟩
      · have HR : Hid (firstS s = (65533, 1, false)) := by
          show _ = _
          rw [← HK.out]; exact firstFrom_stop _ _ (.inl (by omega))
        go_wp2
        go_ret3
        exact ⟨ret_tup (by rw [HR.out]; rfl), HB.out⟩

end Go.Proofs.YtaocnnebfnlgiaaDoor
