/-
  The contract of the first reference's All.
-/
import Derived.Test.YtaocnnebfnlgiaaDoorRef2
import Derived.Test.YtaocnnebfnlgiaaDoorOwn
namespace Go.Proofs.YtaocnnebfnlgiaaDoor
open Go.RowKit

theorem info_int3 : (Tryd.prog.info? 3).map (fun i => (i.zero, i.size, i.bytes)) = some (some (.int .i64 0), 1, 8) := by kernel_rfl

def validFrom (s : ByteArray) : Nat → Nat → Bool
  | 0, _ => true
  | fuel + 1, pos => if pos < s.size then goodD (Utf8.decode s pos) && validFrom s fuel (pos + (Utf8.decode s pos).2) else true
def validB (s : ByteArray) : Bool := validFrom s s.size 0
theorem validFrom_end (s : ByteArray) (fuel pos : Nat) (h : ¬ pos < s.size) : validFrom s fuel pos = true := by
  cases fuel <;> simp [validFrom, h]
theorem validFrom_step (s : ByteArray) (fuel pos : Nat) (h : pos < s.size) : validFrom s (fuel + 1) pos = (goodD (Utf8.decode s pos) && validFrom s fuel (pos + (Utf8.decode s pos).2)) := by
  simp [validFrom, h]

theorem first_at (s : ByteArray) (pos : Nat) (h : pos < s.size) : firstS (s.extract pos s.size) = (((Utf8.decode s pos).1 : Int), ((Utf8.decode s pos).2 : Int), goodD (Utf8.decode s pos)) := by
  have hl := suf_list s pos
  have hne : (s.extract pos s.size).size ≠ 0 := by
    have := congrArg List.length hl
    simp [ByteArray.size_extract]; omega
  unfold firstS
  rw [if_neg hne, hl]
  unfold firstD
  rw [Lib.decodeL_drop]

theorem decode_in (s : ByteArray) (pos : Nat) (h : pos < s.size) : pos + (Utf8.decode s pos).2 ≤ s.size := by
  have hne : s.data.toList.drop pos ≠ [] := by
    intro e
    have := congrArg List.length e
    simp at this
    omega
  have := Lib.decodeL_le _ hne
  rw [Lib.decodeL_drop] at this
  simp at this
  omega

/-- What All has collected. -/
structure AllRel (W w : World) (s : ByteArray) (vo vs : Value) (pos fuel : Nat) (acc sacc : List Int) (val : Bool) : Prop where
  o : w.ownsRow W.heap.size 3 1 vo acc.length (ints acc)
  o2 : w.ownsRow W.heap.size 3 1 vs sacc.length (ints sacc)
  ap : Apart vo vs
  b : Below W.heap.size W w
  c : acc ++ charsFrom s fuel pos = chars s
  t : sacc ++ startsFrom s fuel pos = starts0 s
  v : (val && validFrom s fuel pos) = validB s
  f : s.size ≤ pos + fuel
  la : acc.length ≤ pos
  ls : sacc.length ≤ pos

theorem AllRel.start (w : World) (s : ByteArray) : AllRel w w s (.slice none 0 0) (.slice none 0 0) 0 s.size [] [] true :=
  ⟨World.ownsRow_nil _ _ _ _, World.ownsRow_nil _ _ _ _, Apart.nil_left _, Below.refl _ _, rfl, rfl, rfl, by omega, by simp, by simp⟩

theorem AllRel.step {W w w' : World} {s : ByteArray} {vo vs vo' vs' : Value} {pos fuel : Nat} {acc sacc : List Int} {val : Bool} (h : AllRel W w s vo vs pos (fuel + 1) acc sacc val) (hp : pos < s.size)
    (o : w'.ownsRow W.heap.size 3 1 vo' (acc.length + 1) (ints acc ++ [.int .i64 ((Utf8.decode s pos).1 : Int)]))
    (t : w'.ownsRow W.heap.size 3 1 vs' (sacc.length + 1) (ints sacc ++ [.int .i64 (pos : Int)]))
    (ap : Apart vo' vs') (b : Below W.heap.size W w') :
    AllRel W w' s vo' vs' (pos + (Utf8.decode s pos).2) fuel (acc ++ [((Utf8.decode s pos).1 : Int)]) (sacc ++ [(pos : Int)]) (val && goodD (Utf8.decode s pos)) := by
  have hw := Lib.decode_width_pos s pos hp
  refine ⟨by rw [ints_append, List.length_append]; exact o, by rw [ints_append, List.length_append]; exact t, ap, b, ?_, ?_, ?_, by have := h.f; omega, by have := h.la; simp; omega, by have := h.ls; simp; omega⟩
  · rw [← h.c, charsFrom_step s fuel pos hp]; simp
  · rw [← h.t, startsFrom_step s fuel pos hp]; simp
  · rw [← h.v, validFrom_step s fuel pos hp, Bool.and_assoc]

set_option maxRecDepth 100000 in
set_option maxHeartbeats 2000000 in
theorem rall_any (s : ByteArray) (w : World) (hs : s.size ≤ 1099511627776) :
    Calls Tryd.prog 21 #[.string s] w fun e w' => ∃ v1 v2, e = .returned (.tuple #[v1, v2, .bool (validB s)]) ∧
      w'.ownsRow w.heap.size 3 1 v1 (chars s).length (ints (chars s)) ∧ w'.ownsRow w.heap.size 3 1 v2 (starts s).length (ints (starts s)) ∧ Apart v1 v2 ∧ Below w.heap.size w w' := by
  obtain ⟨i0, hi, hz0, hz1, hz2⟩ := info_parts info_int3
  go_enter Tryd.func21, Tryd.ntmps21
  go_wp2
  go_loopw [5, 6, 7, 8] (fun vo vs vv va wr => ∃ (pos fuel : Nat) (acc sacc : List Int) (val : Bool), vv = .bool val ∧ va = .int .i64 pos ∧ pos ≤ s.size ∧ Aside (AllRel w wr s vo vs pos fuel acc sacc val)) (fun _ _ _ va _ => s.size - (intOf va).toNat)
  case atStart => exact ⟨0, s.size, [], [], true, rfl, rfl, by omega, AllRel.start w s⟩
  case round =>
    obtain ⟨pos, fuel, acc, sacc, val, rfl, rfl, hpos, HX⟩ := hrel
    by_cases hlt : pos < s.size
    · obtain ⟨fuel, rfl⟩ : ∃ f', fuel = f' + 1 := ⟨fuel - 1, by have := HX.out.f; omega⟩
      have hwd := Lib.decode_width_pos s pos hlt
      have hle := decode_le s pos
      have hin := decode_in s pos hlt
      have hla := HX.out.la
      have hls := HX.out.ls
      have hst := fun vo' vs' w' => HX.out.step (vo' := vo') (vs' := vs') (w' := w') hlt
      obtain ⟨d, hd⟩ : ∃ d, Utf8.decode s pos = d := ⟨_, rfl⟩
      have hfa := first_at s pos hlt
      rw [hd] at hwd hle hin hfa hst
      have HST := Lib.hid hst
      have HFA := Lib.hid hfa
      clear hfa hd hst
      obtain ⟨d1, d2⟩ := d
      simp only at hwd hle hin
      have ho := HX.out.o
      have hso := HX.out.o2
      have hb := HX.out.b.size
      have CF := fun W : World => rfirst_any (s.extract pos s.size) W (by simp [ByteArray.size_extract]; omega)
      rw [HFA.out] at CF
      obtain ⟨g, hg⟩ : ∃ g, goodD (d1, d2) = g := ⟨_, rfl⟩
      rw [hg] at CF HST
      simp only [tup3] at CF
      clear HFA hg
      have HCF := Lib.hid CF
      clear CF
      cases val
      all_goals
        go_wp2_with fail
        refine (HCF.out wr).mono ?_
        rintro e w1 ⟨rfl, b1⟩
        have ho1 := own_below ho b1 (Nat.le_refl _)
        have hso1 := own_below hso b1 (Nat.le_refl _)
        have hb1 := b1.size
        have HB1 := aside (HX.out.b.trans (b1.mono hb))
        have HO1 := aside ho1
        have HSO1 := aside hso1
        clear ho hso b1 ho1 hso1
        go_wp2_with (first
          | (at_builtin
             refine wpList_append_lies _ rfl (.tmp 24) (.tmp 26) 23 rfl w.heap.size 3 i0 (.int .i64 0) 1 8 Tryd.underlying23 hi hz0 hz1 hz2 rfl (by decide) _ _ _ rfl (HO1.out.alloc _) ⟨w1.heap.size, 0, none⟩ 1 1 [.int .i64 (d1 : Int)] rfl rfl (cell_one_new _ _ _) (fun x hx => by simp at hx; subst hx; rfl) (by decide) (by unfold maxLen; omega) (by omega) (by simp; omega) _ rfl ?_
             intro g1 c1 w2 hown hgrow hat hg1
             have hso2 := own_grown' (HSO1.out.alloc (.cells #[.int .i64 (d1 : Int)] 3)) hgrow (fun k hk hk2 => HX.out.ap k hk2 hk)
             have hap2 : Apart (.slice (some ⟨g1, 0, none⟩) (acc.length + 1) c1) u6 := HX.out.ap.lies HSO1.out hat (by simp)
             have hb2 : Below w.heap.size w w2 := Below.grown (HB1.out.alloc (by omega) _) hgrow (by simp; omega) (fun k hk => by have := (HO1.out.lt _ hk).1; omega)
             have hsz2 := hb2.size
             have X2 : Aside (w2.ownsRow w.heap.size 3 1 (.slice (some ⟨g1, 0, none⟩) (acc.length + 1) c1) (acc.length + 1) (ints acc ++ [.int .i64 (d1 : Int)]) ∧ w2.ownsRow w.heap.size 3 1 u6 sacc.length (ints sacc) ∧ Apart (.slice (some ⟨g1, 0, none⟩) (acc.length + 1) c1) u6 ∧ Below w.heap.size w w2) := ⟨hown, hso2, hap2, hb2⟩
             clear hown hgrow hat hso2 hap2 hb2)
          | (at_builtin
             refine wpList_append_lies _ rfl (.tmp 28) (.tmp 30) 23 rfl w.heap.size 3 i0 (.int .i64 0) 1 8 Tryd.underlying23 hi hz0 hz1 hz2 rfl (by decide) _ _ _ rfl (X2.out.2.1.alloc _) ⟨w2.heap.size, 0, none⟩ 1 1 [.int .i64 (pos : Int)] rfl rfl (cell_one_new _ _ _) (fun x hx => by simp at hx; subst hx; rfl) (by decide) (by unfold maxLen; omega) (by omega) (by simp; omega) _ rfl ?_
             intro g2 c2 w3 hown hgrow hat hg2
             have hso2 := own_grown' (X2.out.1.alloc (.cells #[.int .i64 (pos : Int)] 3)) hgrow (fun k hk hk2 => X2.out.2.2.1 k hk hk2)
             have hap2 : Apart (.slice (some ⟨g2, 0, none⟩) (sacc.length + 1) c2) (.slice (some ⟨g1, 0, none⟩) (acc.length + 1) c1) := X2.out.2.2.1.symm.lies X2.out.1 hat (by simp)
             have hb2 : Below w.heap.size w w3 := Below.grown (X2.out.2.2.2.alloc (by omega) _) hgrow (by simp; omega) (fun k hk => by have := (X2.out.2.1.lt _ hk).1; omega)
             have X3 := aside (HST.out _ _ w3 hso2 hown hap2.symm hb2)
             clear hown hgrow hat hso2 hap2 hb2))
        go_roundw
        case rel => exact ⟨pos + d2, fuel, _, _, _, rfl, by go_num, by omega, X3⟩
        case measure => simp [intOf]; omega
    · have e1 : acc = chars s := by have := HX.out.c; rw [charsFrom_end s fuel pos hlt, List.append_nil] at this; exact this
      have e2 : sacc = starts0 s := by have := HX.out.t; rw [startsFrom_end s fuel pos hlt, List.append_nil] at this; exact this
      have e3 : val = validB s := by have := HX.out.v; rw [validFrom_end s fuel pos hlt, Bool.and_true] at this; exact this
      subst e1
      subst e2
      subst e3
      have hls := HX.out.ls
      have hb := HX.out.b.size
      go_wp2_with (first
        | (at_builtin
           refine wpList_append_lies _ rfl (.tmp 40) (.tmp 43) 23 rfl w.heap.size 3 i0 (.int .i64 0) 1 8 Tryd.underlying23 hi hz0 hz1 hz2 rfl (by decide) _ _ _ rfl (HX.out.o2.alloc _) ⟨wr.heap.size, 0, none⟩ 1 1 [.int .i64 (s.size : Int)] rfl rfl (cell_one_new _ _ _) (fun x hx => by simp at hx; subst hx; rfl) (by decide) (by unfold maxLen; omega) (by omega) (by simp; omega) _ rfl ?_
           intro g2 c2 w3 hown hgrow hat hg2
           have hso2 := own_grown' (HX.out.o.alloc (.cells #[.int .i64 (s.size : Int)] 3)) hgrow (fun k hk hk2 => HX.out.ap k hk hk2)
           have hap2 : Apart (.slice (some ⟨g2, 0, none⟩) ((starts0 s).length + 1) c2) u5 := HX.out.ap.symm.lies HX.out.o hat (by simp)
           have hb2 : Below w.heap.size w w3 := Below.grown (HX.out.b.alloc (by omega) _) hgrow (by simp; omega) (fun k hk => by have := (HX.out.o2.lt _ hk).1; omega)
           have X3 : Aside (w3.ownsRow w.heap.size 3 1 u5 (chars s).length (ints (chars s)) ∧ w3.ownsRow w.heap.size 3 1 (.slice (some ⟨g2, 0, none⟩) ((starts0 s).length + 1) c2) (starts s).length (ints (starts s)) ∧ Apart u5 (.slice (some ⟨g2, 0, none⟩) ((starts0 s).length + 1) c2) ∧ Below w.heap.size w w3) := ⟨hso2, by unfold starts; rw [ints_append, List.length_append]; exact hown, hap2.symm, hb2⟩
           clear hown hgrow hat hso2 hap2 hb2))
      go_ret3
      exact ⟨_, _, rfl, X3.out.1, X3.out.2.1, X3.out.2.2.1, X3.out.2.2.2⟩

end Go.Proofs.YtaocnnebfnlgiaaDoor
