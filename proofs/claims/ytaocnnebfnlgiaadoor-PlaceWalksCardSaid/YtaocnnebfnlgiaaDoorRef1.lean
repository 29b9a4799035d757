/-
  Contracts of the first reference: Encode, value, First.
-/
import Derived.Test.YtaocnnebfnlgiaaDoorBase
import Derived.Test.YtaocnnebfnlgiaaDoorMem
import Derived.Test.YtaocnnebfnlgiaaDoorRefP
import Derived.Lib.QuietBelow
import Derived.Lib.BufferRead
import Derived.Laws.IdiomStrings
namespace Go.Proofs.YtaocnnebfnlgiaaDoor
open Go.RowKit

/-- Bytes of a new block, as a string. -/
theorem conv_new (w : World) (l : List UInt8) (cs : Array Value) (n : Nat) (hcs : cs.toList = Lib.byteCells l) (hn : n = l.length) :
    (convert 65 9 (.slice (some ⟨w.heap.size, 0, none⟩) n n)).run Tryd.prog (w.alloc (.cells cs 5)) = .ok (.string ⟨l.toArray⟩) (w.alloc (.cells cs 5)) := by
  subst hn
  refine run_convert_bytes_back _ _ _ _ _ _ l Tryd.underlying65 Tryd.underlying5 Tryd.underlying9 ?_
  refine Lib.bytes_of_row (heap_alloc_new w _) ?_
  rw [hcs, ← Lib.byteCells_length l]
  simp

set_option maxHeartbeats 1000000 in
theorem renc_any (c : Int) (w : World) :
    Calls Tryd.prog 39 #[.int .i64 c] w fun e w' => e = .returned (.string ⟨(refEnc c).toArray⟩) ∧ Below w.heap.size w w' := by
  obtain ⟨b, hb⟩ : ∃ b, mayB c = b := ⟨_, rfl⟩
  have HB := Lib.hid hb
  cases b with
  | false =>
    have HE : Hid (refEnc c = []) := by show _ = _; simp [refEnc, hb]
    clear hb
    go_enter Tryd.func39, Tryd.ntmps39
    go_wp2_with (go_at_call 49; refine (may_any _ _).mono ?_; rintro e w' ⟨rfl, rfl⟩; rw [HB.out])
    go_ret
    exact ⟨ret_str (by rw [HE.out]), Below.refl _ _⟩
  | true =>
    have he : refEnc c = Lib.encodeRune c := by simp [refEnc, hb]
    rcases enc_cases c hb with ⟨h0, h1, e⟩ | ⟨h0, h1, e⟩ | ⟨h0, h1, h2, e⟩ | ⟨h0, h1, e⟩
    · rw [e] at he
      have HE := Lib.hid he
      have b0 := byteZ (c) (by omega) (by omega)
      have hc := conv_new w [(c).toNat.toUInt8] #[.int .u8 (c)] 1 (by simp only [Lib.byteCells, List.map, b0]) rfl
      clear hb he e b0
      go_enter Tryd.func39, Tryd.ntmps39
      go_wp2_with (go_at_call 49; refine (may_any _ _).mono ?_; rintro e w' ⟨rfl, rfl⟩; rw [HB.out])
      go_ret
      exact ⟨ret_str (by rw [HE.out]), (Below.refl _ _).alloc (Nat.le_refl _) _⟩
    · rw [e] at he
      have HE := Lib.hid he
      have b0 := byteZ (192 + c / 64) (by omega) (by omega)
      have b1 := byteZ (128 + c % 64) (by omega) (by omega)
      have hc := conv_new w [(192 + c / 64).toNat.toUInt8, (128 + c % 64).toNat.toUInt8] #[.int .u8 (192 + c / 64), .int .u8 (128 + c % 64)] 2 (by simp only [Lib.byteCells, List.map, b0, b1]) rfl
      clear hb he e b0 b1
      go_enter Tryd.func39, Tryd.ntmps39
      go_wp2_with (go_at_call 49; refine (may_any _ _).mono ?_; rintro e w' ⟨rfl, rfl⟩; rw [HB.out])
      go_ret
      exact ⟨ret_str (by rw [HE.out]), (Below.refl _ _).alloc (Nat.le_refl _) _⟩
    · rw [e] at he
      have HE := Lib.hid he
      have b0 := byteZ (224 + c / 4096) (by omega) (by omega)
      have b1 := byteZ (128 + c / 64 % 64) (by omega) (by omega)
      have b2 := byteZ (128 + c % 64) (by omega) (by omega)
      have hc := conv_new w [(224 + c / 4096).toNat.toUInt8, (128 + c / 64 % 64).toNat.toUInt8, (128 + c % 64).toNat.toUInt8] #[.int .u8 (224 + c / 4096), .int .u8 (128 + c / 64 % 64), .int .u8 (128 + c % 64)] 3 (by simp only [Lib.byteCells, List.map, b0, b1, b2]) rfl
      clear hb he e b0 b1 b2
      go_enter Tryd.func39, Tryd.ntmps39
      go_wp2_with (go_at_call 49; refine (may_any _ _).mono ?_; rintro e w' ⟨rfl, rfl⟩; rw [HB.out])
      go_ret
      exact ⟨ret_str (by rw [HE.out]), (Below.refl _ _).alloc (Nat.le_refl _) _⟩
    · rw [e] at he
      have HE := Lib.hid he
      have b0 := byteZ (240 + c / 262144) (by omega) (by omega)
      have b1 := byteZ (128 + c / 4096 % 64) (by omega) (by omega)
      have b2 := byteZ (128 + c / 64 % 64) (by omega) (by omega)
      have b3 := byteZ (128 + c % 64) (by omega) (by omega)
      have hc := conv_new w [(240 + c / 262144).toNat.toUInt8, (128 + c / 4096 % 64).toNat.toUInt8, (128 + c / 64 % 64).toNat.toUInt8, (128 + c % 64).toNat.toUInt8] #[.int .u8 (240 + c / 262144), .int .u8 (128 + c / 4096 % 64), .int .u8 (128 + c / 64 % 64), .int .u8 (128 + c % 64)] 4 (by simp only [Lib.byteCells, List.map, b0, b1, b2, b3]) rfl
      clear hb he e b0 b1 b2 b3
      go_enter Tryd.func39, Tryd.ntmps39
      go_wp2_with (go_at_call 49; refine (may_any _ _).mono ?_; rintro e w' ⟨rfl, rfl⟩; rw [HB.out])
      go_ret
      exact ⟨ret_str (by rw [HE.out]), (Below.refl _ _).alloc (Nat.le_refl _) _⟩

/-- The value so far. -/
def vk (l : List UInt8) (k : Nat) : Int := ((l.drop 1).take (k - 1)).foldl (fun c b => c * 64 + (b.toNat : Int) - 128) (((l.getD 0 0).toNat : Int) - off l.length)
theorem vk_one (l : List UInt8) : vk l 1 = ((l.getD 0 0).toNat : Int) - off l.length := rfl
theorem vk_succ (l : List UInt8) (k : Nat) (h1 : 1 ≤ k) (hk : k < l.length) : vk l (k + 1) = vk l k * 64 + ((l.getD k 0).toNat : Int) - 128 := by
  unfold vk
  obtain ⟨j, rfl⟩ : ∃ j, k = j + 1 := ⟨k - 1, by omega⟩
  have hj : j < (l.drop 1).length := by simp; omega
  have e1 : j + 1 + 1 - 1 = j + 1 := by omega
  have e2 : j + 1 - 1 = j := by omega
  rw [e1, e2, List.take_succ_eq_append_getElem hj, List.foldl_append]
  simp [hk]
theorem vk_end (l : List UInt8) : vk l l.length = valueL l := by
  unfold vk valueL
  rw [List.take_of_length_le (by simp)]
theorem off_bd (n : Nat) : 0 ≤ off n ∧ off n ≤ 240 := by
  unfold off
  repeat' split
  all_goals omega
theorem vk_bd (l : List UInt8) (k : Nat) (h1 : 1 ≤ k) (h4 : k ≤ 4) (hk : k ≤ l.length) : -100000000 ≤ vk l k ∧ vk l k ≤ 100000000 := by
  have o := off_bd l.length
  have hb : ∀ j, (l.getD j 0).toNat < 256 := fun j => UInt8.toNat_lt _
  have g0 := hb 0
  have g1 := hb 1
  have g2 := hb 2
  have g3 := hb 3
  have v1 := vk_one l
  rcases (show k = 1 ∨ k = 2 ∨ k = 3 ∨ k = 4 by omega) with rfl | rfl | rfl | rfl
  · omega
  · have v2 := vk_succ l 1 (by omega) (by omega)
    simp only [Nat.reduceAdd] at v2
    omega
  · have v2 := vk_succ l 1 (by omega) (by omega)
    have v3 := vk_succ l 2 (by omega) (by omega)
    simp only [Nat.reduceAdd] at v2 v3
    omega
  · have v2 := vk_succ l 1 (by omega) (by omega)
    have v3 := vk_succ l 2 (by omega) (by omega)
    have v4 := vk_succ l 3 (by omega) (by omega)
    simp only [Nat.reduceAdd] at v2 v3 v4
    omega
theorem value_bd (l : List UInt8) (h1 : 1 ≤ l.length) (h4 : l.length ≤ 4) : -100000000 ≤ valueL l ∧ valueL l ≤ 100000000 := by
  rw [← vk_end]; exact vk_bd l _ h1 h4 (Nat.le_refl _)
theorem byte_at (s : ByteArray) (k : Nat) (h : k < s.size) : (s.data.toList.getD k 0) = s[k] := by
  have h' : k < s.data.size := h
  rw [List.getD_eq_getElem?_getD, Array.getElem?_toList, Array.getElem?_eq_getElem h']
  rfl

set_option maxHeartbeats 1000000 in
theorem value_any (s : ByteArray) (w : World) (h1 : 1 ≤ s.size) (h4 : s.size ≤ 4) :
    Calls Tryd.prog 38 #[.string s] w fun e w' => e = .returned (.int .i64 (valueL s.data.toList)) ∧ w = w' := by
  have hp : 0 < s.size := by omega
  have hsz : s.data.toList.length = s.size := by simp
  have HV := Lib.hid (vk_end s.data.toList)
  rw [hsz] at HV
  have h0 : (s[0]'hp).toNat < 256 := UInt8.toNat_lt _
  have hv1 := vk_one s.data.toList
  rw [hsz, byte_at s 0 hp] at hv1
  have hcases : (s.size = 1 ∧ ((s.size : Int) == 2) = false ∧ ((s.size : Int) == 3) = false ∧ ((s.size : Int) == 4) = false ∧ vk s.data.toList 1 = (s[0]'hp).toNat) ∨
      (s.size = 2 ∧ ((s.size : Int) == 2) = true ∧ ((s.size : Int) == 3) = false ∧ ((s.size : Int) == 4) = false ∧ vk s.data.toList 1 = (s[0]'hp).toNat - 192) ∨
      (s.size = 3 ∧ ((s.size : Int) == 2) = false ∧ ((s.size : Int) == 3) = true ∧ ((s.size : Int) == 4) = false ∧ vk s.data.toList 1 = (s[0]'hp).toNat - 224) ∨
      (s.size = 4 ∧ ((s.size : Int) == 2) = false ∧ ((s.size : Int) == 3) = false ∧ ((s.size : Int) == 4) = true ∧ vk s.data.toList 1 = (s[0]'hp).toNat - 240) := by
    rcases (show s.size = 1 ∨ s.size = 2 ∨ s.size = 3 ∨ s.size = 4 by omega) with h | h | h | h
    · exact .inl ⟨h, by simp; omega, by simp; omega, by simp; omega, by rw [hv1]; simp [off, h]⟩
    · exact .inr (.inl ⟨h, by simp; omega, by simp; omega, by simp; omega, by rw [hv1]; simp [off, h]⟩)
    · exact .inr (.inr (.inl ⟨h, by simp; omega, by simp; omega, by simp; omega, by rw [hv1]; simp [off, h]⟩))
    · exact .inr (.inr (.inr ⟨h, by simp; omega, by simp; omega, by simp; omega, by rw [hv1]; simp [off, h]⟩))
  clear hv1
  have HSZ := Lib.hid hsz
  clear hsz
  rcases hcases with ⟨hn, t2, t3, t4, hv⟩ | ⟨hn, t2, t3, t4, hv⟩ | ⟨hn, t2, t3, t4, hv⟩ | ⟨hn, t2, t3, t4, hv⟩
  all_goals
    have HN := Lib.hid hn
    have HV1 := Lib.hid hv
    clear hn hv
    go_enter Tryd.func38, Tryd.ntmps38
    go_wp2
    go_loop [3, 4] (fun c i => ∃ k : Nat, 1 ≤ k ∧ k ≤ s.size ∧ i = .int .i64 k ∧ c = .int .i64 (vk s.data.toList k)) (fun _ i => s.size - (intOf i).toNat)
    case atStart => exact ⟨1, by omega, by omega, rfl, by rw [HV1.out]⟩
    case round =>
      obtain ⟨k, hk1, hk, rfl, rfl⟩ := hrel
      have hbd := vk_bd s.data.toList k hk1 (by omega) (by rw [HSZ.out]; omega)
      obtain ⟨hb0, hb1⟩ := hbd
      by_cases hlt : k < s.size
      · have hs := vk_succ s.data.toList k hk1 (by rw [HSZ.out]; omega)
        rw [byte_at s k hlt] at hs
        have HS := Lib.hid hs
        have hx : s[k].toNat < 256 := UInt8.toNat_lt _
        clear hs
        obtain ⟨v, hv⟩ : ∃ v, vk s.data.toList k = v := ⟨_, rfl⟩
        rw [hv] at hb0 hb1 HS ⊢
        clear hv
        go_wp2
        go_round
        case rel => exact ⟨k + 1, by omega, by omega, by go_num, by rw [HS.out]⟩
        case measure => simp [intOf]; omega
      · have HE : Hid (vk s.data.toList k = valueL s.data.toList) := by
          show _ = _
          rw [show k = s.size by omega]; exact HV.out
        obtain ⟨v, hv⟩ : ∃ v, vk s.data.toList k = v := ⟨_, rfl⟩
        rw [hv] at hb0 hb1 HE ⊢
        clear hv
        go_wp2
        go_ret
        exact ⟨ret_int HE.out, rfl⟩

end Go.Proofs.YtaocnnebfnlgiaaDoor
