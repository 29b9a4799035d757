/-
  Contracts: told, First and Last of the program.
-/
import Derived.Test.YtaocnnebfnlgiaaDoorRef3
import Derived.Test.YtaocnnebfnlgiaaDoorShelf
import Derived.Test.YtaocnnebfnlgiaaDoorTabs
import Derived.Lib.TrimUEq
namespace Go.Proofs.YtaocnnebfnlgiaaDoor
open Go.RowKit

/-- What is told of a character that was decoded. -/
def toldP (d : Nat × Nat) : Int × Int × Bool := if d.2 = 0 then (0, 0, false) else ((d.1 : Int), (d.2 : Int), goodD d)
set_option maxHeartbeats 400000 in
theorem told_any (d : Nat × Nat) (w : World) (h1 : d.1 ≤ 1114111) (h2 : d.2 ≤ 4) :
    Calls Tryd.prog 36 #[.int .i32 (d.1 : Int), .int .i64 (d.2 : Int)] w fun e w' => e = .returned (tup3 (toldP d)) ∧ w = w' := by
  obtain ⟨c, n⟩ := d
  simp only at h1 h2 ⊢
  have hn : n = 0 ∨ n = 1 ∨ 1 < n := by omega
  rcases hn with rfl | rfl | hn
  · go_enter Tryd.func36, Tryd.ntmps36
    go_wp2
    go_ret3
    exact ⟨rfl, rfl⟩
  · by_cases hc : c = 65533
    · subst hc
      go_enter Tryd.func36, Tryd.ntmps36
      go_wp2
      go_ret3
      exact ⟨rfl, rfl⟩
    · have hb : ((c : Int) != 65533) = true := by simp; omega
      have HR : Hid (toldP (c, 1) = ((c : Int), ((1 : Nat) : Int), true)) := by show _ = _; simp [toldP, goodD, hc]
      clear hc
      go_enter Tryd.func36, Tryd.ntmps36
      go_wp2
      go_ret3
      exact ⟨ret_tup (by rw [HR.out]; rfl), rfl⟩
  · have hn3 : n = 2 ∨ n = 3 ∨ n = 4 := by omega
    clear hn
    rcases hn3 with rfl | rfl | rfl
    all_goals
      by_cases hc : c = 65533
      · subst hc
        go_enter Tryd.func36, Tryd.ntmps36
        go_wp2
        go_ret3
        exact ⟨rfl, rfl⟩
      · have hb : ((c : Int) != 65533) = true := by simp; omega
        have hg : ∀ m, goodD (c, m) = true := fun m => by simp [goodD, hc]
        have HR := Lib.hid hg
        clear hc hg
        go_enter Tryd.func36, Tryd.ntmps36
        go_wp2
        go_ret3
        exact ⟨ret_tup (by simp [toldP, HR.out, tup3]), rfl⟩

theorem told_first (s : ByteArray) : toldP (Lib.decodeGo s) = firstS s := by
  unfold Lib.decodeGo firstS
  by_cases h : s.size = 0
  · rw [if_pos h, if_pos h]; rfl
  · rw [if_neg h, if_neg h]
    have hw := Lib.decode_width_pos s 0 (by omega)
    have e : Lib.decodeL s.data.toList = Utf8.decode s 0 := by
      have := Lib.decodeL_drop s 0
      simpa using this
    unfold toldP firstD
    rw [if_neg (by omega), e]

theorem decodeGo_bd (s : ByteArray) : (Lib.decodeGo s).1 ≤ 1114111 ∧ (Lib.decodeGo s).2 ≤ 4 := by
  unfold Lib.decodeGo
  split
  · simp
  · rw [Lib.decode_N]
    exact ⟨Lib.decodeN_rune_le _ _ _ _ _ (UInt8.toNat_lt _), decodeN_le4 _ _ _ _ _⟩
theorem decodeLast_bd (l : List UInt8) : (Lib.decodeLastL l).1 ≤ 1114111 ∧ (Lib.decodeLastL l).2 ≤ 4 := by
  unfold Lib.decodeLastL
  split
  · simp [Utf8.runeError]
  · split
    · rename_i h; refine ⟨?_, by simp⟩; show (l.getD (l.length - 1) 0).toNat ≤ _; omega
    · simp only
      split
      · rw [Lib.decodeL_N]
        exact ⟨Lib.decodeN_rune_le _ _ _ _ _ (UInt8.toNat_lt _), decodeN_le4 _ _ _ _ _⟩
      · simp [Utf8.runeError]
/-- Last, plain. -/
def lastS (s : ByteArray) : Int × Int × Bool := toldP (Lib.decodeLastL s.data.toList)

set_option maxHeartbeats 400000 in
theorem ufirst_any (s : ByteArray) (w : World) (hT : Lib.Utf8Tabs 0 1 w) :
    Calls Tryd.prog 24 #[.string s] w fun e w' => e = .returned (tup3 (firstS s)) ∧ Below w.heap.size w w' := by
  have hd := decodeGo_bd s
  have hF := told_first s
  have HC := Lib.hid (Tryd.utf8_DecodeRuneInString s w hT)
  obtain ⟨d, hd'⟩ : ∃ d, Lib.decodeGo s = d := ⟨_, rfl⟩
  obtain ⟨⟨r1, r2, r3⟩, hr⟩ : ∃ r, firstS s = r := ⟨_, rfl⟩
  rw [hd'] at hd hF HC
  rw [hr] at hF ⊢
  have CT := fun W : World => told_any d W hd.1 hd.2
  rw [hF] at CT
  simp only [tup3] at CT ⊢
  have HCT := Lib.hid CT
  clear hd' hT CT hd hF hr
  go_enter Tryd.func24, Tryd.ntmps24
  go_wp2_with fail
  refine HC.out.mono ?_
  rintro e w1 ⟨rfl, b1⟩
  have B1 := aside b1
  clear b1
  go_wp2_with fail
  refine (HCT.out _).mono ?_
  rintro e w2 ⟨rfl, rfl⟩
  go_wp2
  go_ret3
  exact ⟨rfl, B1.out⟩


end Go.Proofs.YtaocnnebfnlgiaaDoor
