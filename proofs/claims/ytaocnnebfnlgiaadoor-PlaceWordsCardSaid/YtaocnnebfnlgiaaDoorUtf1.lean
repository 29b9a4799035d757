/-
  Contracts: a character's bytes (the program's Encode), all characters of a text (the program's All).
-/
import Derived.Test.YtaocnnebfnlgiaaDoorBase
import Derived.Test.YtaocnnebfnlgiaaDoorUtfP
import Derived.Test.YtaocnnebfnlgiaaDoorShelf
import Derived.Laws.IdiomStrings
import Derived.Lib.BufferRead
namespace Go.Proofs.YtaocnnebfnlgiaaDoor
open Go.RowKit

theorem info_int : (Tryd.prog.info? 3).map (fun i => (i.zero, i.size, i.bytes)) = some (some (.int .i64 0), 1, 8) := by kernel_rfl

theorem runeCells_bytes (c : Int) : Lib.runeCells c = Lib.byteCells (Lib.encodeRune c) := (Lib.byteCells_encodeRune c).symm

/-- The bytes of an owned row, as a string. -/
theorem conv_own (w : World) (B : Nat) (v : Value) (n : Nat) (l : List UInt8) (hn : n = l.length) (hown : w.ownsRow B 5 1 v n (Lib.byteCells l)) :
    (convert 65 9 v).run Tryd.prog w = .ok (.string ⟨l.toArray⟩) w := by
  subst hn
  rcases hown.2 with ⟨rfl, h0⟩ | ⟨g, cap, cur, rfl, _, hg, _, _, _, ht⟩
  · have : l = [] := List.eq_nil_of_length_eq_zero h0
    subst this
    exact Lib.run_convert_nil_bytes w _ _ _ _ Tryd.underlying65 Tryd.underlying5 Tryd.underlying9
  · exact run_convert_bytes_back w _ _ _ _ _ l Tryd.underlying65 Tryd.underlying5 Tryd.underlying9 (Lib.bytes_of_row hg (by simpa using ht))


set_option maxRecDepth 100000 in
set_option maxHeartbeats 1000000 in
theorem uall_any (s : ByteArray) (w : World) (hs : s.size ≤ 1099511627776) :
    Calls Tryd.prog 31 #[.string s] w fun e w' => ∃ v, e = .returned v ∧ w'.ownsRow (w.heap.size + 1) 3 1 v (chars s).length (ints (chars s)) ∧ Below w.heap.size w w' := by
  obtain ⟨i0, hi, hz0, hz1, hz2⟩ := info_parts info_int
  go_enter Tryd.func31, Tryd.ntmps31
  go_wp2
  go_loopw [3] (fun v wr => ∃ (pos fuel : Nat) (acc : List Int), wr.heap[w.heap.size]? = some (.stringIter s pos) ∧ wr.ownsRow (w.heap.size + 1) 3 1 v acc.length (ints acc) ∧ Below w.heap.size w wr ∧ Hid (acc ++ charsFrom s fuel pos = chars s) ∧ s.size ≤ pos + fuel ∧ acc.length ≤ pos) (fun _ wr => s.size - wr.iterPos w.heap.size)
  case atStart => exact ⟨0, s.size, [], World.iter_heap w s 0, World.ownsRow_nil _ _ _ _, (Below.refl _ _).alloc (Nat.le_refl _) _, rfl, by omega, by simp⟩
  case round =>
    obtain ⟨pos, fuel, acc, hit, hown, hbw, HS, hb, hlen⟩ := hrel
    have hpos0 := iterPos_of hit
    by_cases hp : pos < s.size
    · have hnx : ∀ ty, (Instr.next (.pointer (some ⟨w.heap.size, 0, none⟩)) true ty).run Tryd.prog wr = _ := fun ty => Lib.run_next_any_at wr w.heap.size s pos ty hit hp
      have hwd := Lib.decode_width_pos s pos hp
      have hle := decode_le s pos
      obtain ⟨fuel, rfl⟩ : ∃ f', fuel = f' + 1 := ⟨fuel - 1, by omega⟩
      have hit2 := Lib.iterAt_heap wr w.heap.size s pos (pos + (Utf8.decode s pos).2) hit
      have hbw2 := Lib.below_iterAt hbw (k := w.heap.size) (Nat.le_refl _) s (pos + (Utf8.decode s pos).2)
      have hown2 := ownsRow_iterAt hown (k := w.heap.size) (by omega) s (pos + (Utf8.decode s pos).2)
      obtain ⟨W1, hW1⟩ : ∃ W1, W1 = wr.iterAt w.heap.size s (pos + (Utf8.decode s pos).2) := ⟨_, rfl⟩
      rw [← hW1] at hnx hit2 hbw2 hown2
      have hBlt : w.heap.size < W1.heap.size := (Array.getElem?_eq_some_iff.1 hit2).1
      have HP := Lib.hid hpos0
      have HS2 : Hid ((acc ++ [((Utf8.decode s pos).1 : Int)]) ++ charsFrom s fuel (pos + (Utf8.decode s pos).2) = chars s) := by
        show _ = _
        rw [← HS.out, charsFrom_step s fuel pos hp]; simp
      clear hW1 hit hown hbw hpos0 HS
      go_wp2_with (first
        | (at_builtin; refine wpList_append_own _ rfl _ _ 23 rfl (w.heap.size + 1) 3 i0 (.int .i64 0) 1 8 Tryd.underlying23 hi hz0 hz1 hz2 rfl (by decide) _ _ _ rfl (hown2.alloc _) ⟨W1.heap.size, 0, none⟩ 1 1 [.int .i64 ((Utf8.decode s pos).1 : Int)] rfl rfl (cell_one_new _ _ _) (fun x hx => by simp at hx; subst hx; rfl) (by unfold maxLen; omega) (by omega) (by simp; omega) ?_; intro v' w3 hown' hgrow3 hnil3
           have hit3 : w3.heap[w.heap.size]? = some (.stringIter s (pos + (Utf8.decode s pos).2)) := by
             rw [hgrow3.block w.heap.size (by simp; omega) (fun h => by have := (hown2.lt _ h.symm).1; omega), Below.heap_alloc _ _ _ hBlt]; exact hit2
           have hbw3 : Below w.heap.size w w3 := Below.grown (hbw2.alloc (by omega) _) hgrow3 (by simp; omega) (fun j hj => by have := (hown2.lt _ hj).1; omega)
           have X : Aside (w3.ownsRow (w.heap.size + 1) 3 1 v' (acc.length + 1) (ints acc ++ [.int .i64 ((Utf8.decode s pos).1 : Int)]) ∧ w3.heap[w.heap.size]? = some (.stringIter s (pos + (Utf8.decode s pos).2)) ∧ Below w.heap.size w w3) := ⟨hown', hit3, hbw3⟩
           clear hown' hgrow3 hnil3 hit3 hbw3))
      go_roundw
      case rel =>
        exact ⟨_, fuel, acc ++ [((Utf8.decode s pos).1 : Int)], X.out.2.1, by rw [ints_append, List.length_append]; exact X.out.1, X.out.2.2, HS2, by omega, by simp; omega⟩
      case measure =>
        rw [iterPos_of X.out.2.1, HP.out]; omega
    · have hnx : ∀ ty, (Instr.next (.pointer (some ⟨w.heap.size, 0, none⟩)) true ty).run Tryd.prog wr = _ := fun ty => Lib.run_next_end_at wr w.heap.size s pos ty hit hp
      have e : acc = chars s := by have := HS.out; rw [charsFrom_end s fuel pos hp, List.append_nil] at this; exact this
      subst e
      have X := aside hown
      clear hown hit
      go_wp2
      go_ret
      exact ⟨_, rfl, X.out, hbw⟩

end Go.Proofs.YtaocnnebfnlgiaaDoor
