/-
  Contracts: Split of the program's clusters.
-/
import Derived.Test.YtaocnnebfnlgiaaClu2
import Derived.Test.YtaocnnebfnlgiaaStrs
import Derived.Test.YtaocnnebfnlgiaaCharsL
import Derived.Deep.RegionHeld3
import Derived.Deep.AppendLies
namespace Go.Proofs.Ytaocnnebfnlgiaa
open Go.RowKit

/-- Places rise strictly, from q, below n. -/
def Rise : List Int → Int → Prop
  | [], _ => True
  | x :: xs, q => q ≤ x ∧ Rise xs (x + 1)
theorem Rise.low : ∀ (xs : List Int) {p q : Int}, Rise xs q → p ≤ q → Rise xs p
  | [], _, _, _, _ => trivial
  | _ :: _, _, _, h, hp => ⟨Int.le_trans hp h.1, h.2⟩
theorem starts_rise (s : ByteArray) : ∀ f p, Rise (startsFrom s f p) p
  | 0, _ => trivial
  | f + 1, p => by
    by_cases h : p < s.size
    · rw [startsFrom_step s f p h]
      have hw := decode_ge1 (s.data.toList.drop p)
      rw [Lib.decodeL_drop] at hw
      exact ⟨Int.le_refl _, (starts_rise s f _).low _ (by omega)⟩
    · rw [startsFrom_end s _ p h]; trivial
theorem starts_lt (s : ByteArray) : ∀ f p, ∀ x ∈ startsFrom s f p, x < s.size
  | 0, _, _, h => by cases h
  | f + 1, p, x, hx => by
    by_cases h : p < s.size
    · rw [startsFrom_step s f p h] at hx
      rcases List.mem_cons.1 hx with rfl | hx
      · omega
      · exact starts_lt s f _ x hx
    · rw [startsFrom_end s _ p h] at hx; cases hx
theorem startsC_rise : ∀ (cs ps : List Int) (s : RS) (q : Int), Rise ps q → Rise (startsC s cs ps) q
  | [], _, _, _, _ => trivial
  | _ :: _, [], _, _, _ => trivial
  | c :: cs, p :: ps, s, q, h => by
    have ih := startsC_rise cs ps (rNext s (ofI c)) (p + 1) h.2
    unfold startsC
    split
    · exact ih.low _ (by have := h.1; omega)
    · exact ⟨h.1, ih⟩
theorem startsC_mem : ∀ (cs ps : List Int) (s : RS), ∀ x ∈ startsC s cs ps, x ∈ ps
  | [], _, _, _, h => by cases h
  | _ :: _, [], _, _, h => by cases h
  | c :: cs, p :: ps, s, x, h => by
    unfold startsC at h
    rcases List.mem_append.1 h with h | h
    · split at h
      · cases h
      · rw [List.mem_singleton.1 h]; exact List.mem_cons_self ..
    · exact List.mem_cons_of_mem _ (startsC_mem cs ps _ x h)
theorem rise_snoc : ∀ (xs : List Int) (q n : Int), Rise xs q → (∀ x ∈ xs, x < n) → q ≤ n → Rise (xs ++ [n]) q
  | [], _, _, _, _, h => ⟨h, trivial⟩
  | x :: xs, q, n, h, hm, _ => ⟨h.1, rise_snoc xs _ n h.2 (fun y hy => hm y (List.mem_cons_of_mem _ hy)) (by have := hm x (List.mem_cons_self ..); omega)⟩
theorem cstarts_rise (s : ByteArray) : Rise (cstarts s) 0 :=
  rise_snoc _ _ _ (startsC_rise _ _ _ _ (starts_rise s _ 0)) (fun x hx => starts_lt s _ _ x (startsC_mem _ _ _ x hx)) (by omega)
theorem rise_at : ∀ (xs : List Int) (q : Int) (j : Nat), Rise xs q → j < xs.length → q + j ≤ xs.getD j 0
  | [], _, _, _, h => absurd h (by simp)
  | x :: xs, q, 0, h, _ => by simpa using h.1
  | x :: xs, q, j + 1, h, hj => by
    have ih := rise_at xs (x + 1) j h.2 (by simpa using hj)
    have := h.1
    simp only [List.getD_cons_succ]
    push_cast
    omega
theorem rise_step : ∀ (xs : List Int) (q : Int) (j : Nat), Rise xs q → j + 1 < xs.length → xs.getD j 0 < xs.getD (j + 1) 0
  | [], _, _, _, h => absurd h (by simp)
  | x :: xs, q, 0, h, hj => by
    have ih := rise_at xs (x + 1) 0 h.2 (by simpa using hj)
    simp only [List.getD_cons_succ, List.getD_cons_zero]
    omega
  | x :: xs, q, j + 1, h, hj => by
    have ih := rise_step xs (x + 1) j h.2 (by simpa using hj)
    simpa only [List.getD_cons_succ] using ih
theorem cstarts_mem (s : ByteArray) (j : Nat) (hj : j < (cstarts s).length) : (cstarts s).getD j 0 ≤ s.size := by
  have e : (cstarts s).getD j 0 = (cstarts s)[j] := by simp [hj]
  rw [e]
  have hm := List.getElem_mem hj
  obtain ⟨x, hx⟩ : ∃ x, (cstarts s)[j] = x := ⟨_, rfl⟩
  rw [hx] at hm ⊢
  unfold cstarts at hm
  rcases List.mem_append.1 hm with h | h
  · have := starts_lt s _ _ x (startsC_mem _ _ _ x h)
    omega
  · rw [List.mem_singleton.1 h]; omega
theorem cstarts_two (s : ByteArray) (j : Nat) (hj : j < clen s) : 0 ≤ (cstarts s).getD j 0 ∧ (cstarts s).getD j 0 < (cstarts s).getD (j + 1) 0 ∧ (cstarts s).getD (j + 1) 0 ≤ s.size := by
  have hl := cstarts_len s
  have h1 := rise_at _ 0 j (cstarts_rise s) (by omega)
  have h2 := rise_step _ 0 j (cstarts_rise s) (by omega)
  have h3 := cstarts_mem s (j + 1) (by omega)
  omega

theorem wrap_in (x : Int) (h0 : -9223372036854775808 ≤ x) (h1 : x ≤ 9223372036854775807) : IntKind.i64.wrap x = x := by
  simp [IntKind.wrap, IntKind.bits, IntKind.signed]
  omega

/-- The pieces between places. -/
def piecesK (s : ByteArray) (l : List Int) (k : Nat) : List ByteArray := (List.range k).map fun j => s.extract (l.getD j 0).toNat (l.getD (j + 1) 0).toNat
def pieces (s : ByteArray) : List ByteArray := piecesK s (cstarts s) (clen s)
theorem piecesK_succ (s : ByteArray) (l : List Int) (k : Nat) : piecesK s l (k + 1) = piecesK s l k ++ [s.extract (l.getD k 0).toNat (l.getD (k + 1) 0).toNat] := by
  unfold piecesK
  rw [List.range_succ, List.map_append]
  rfl
theorem piecesK_len (s : ByteArray) (l : List Int) (k : Nat) : (piecesK s l k).length = k := by simp [piecesK]
theorem pieces_len (s : ByteArray) : (pieces s).length = clen s := piecesK_len _ _ _

set_option maxRecDepth 100000 in
set_option maxHeartbeats 4000000 in
theorem csplit_any (s : ByteArray) (w : World) (hs : s.size ≤ 1000) :
    Calls Try.prog 21 #[.string s] w fun e w' => ∃ v, e = .returned v ∧ w'.ownsRow w.heap.size 9 1 v (clen s) (strs (pieces s)) ∧ Below w.heap.size w w' := by
  obtain ⟨i0, hi, hz0, hz1, hz2⟩ := info_parts info_str5
  have CS := Lib.hid (fun W : World => cstarts_any s W hs)
  have hlen := cstarts_len s
  have hcl := clen_le s
  have htwo := cstarts_two s
  have hfin : piecesK s (cstarts s) (clen s) = pieces s := rfl
  obtain ⟨n, hn⟩ : ∃ n, clen s = n := ⟨_, rfl⟩
  obtain ⟨l, hl⟩ : ∃ l, cstarts s = l := ⟨_, rfl⟩
  rw [hn] at hlen hcl htwo hfin ⊢
  rw [hl] at hlen htwo hfin CS
  have HLEN := Lib.hid hlen
  have HFIN := Lib.hid hfin
  have HT := Lib.hid htwo
  clear hn hl hlen htwo hfin
  go_enter Try.func21, Try.ntmps21
  go_wp2_with fail
  refine (CS.out w).mono ?_
  rintro e w1 ⟨v, rfl, o1, b1⟩
  have O1 := Lib.hid o1
  have B1 := aside b1
  have hs1 := b1.size
  clear o1 b1
  have hform : ∃ g c, v = .slice (some ⟨g, 0, none⟩) (n + 1) c ∧ n + 1 ≤ c ∧ c ≤ 9223372036854775807 ∧ w.heap.size ≤ g ∧ g < w1.heap.size := by
    have h := O1.out
    rcases h.2 with ⟨h1, h0⟩ | ⟨g, cap, cur, h1, hg, hh, hc, hm, _⟩
    · rw [HLEN.out] at h0; omega
    · rw [HLEN.out] at h1 hc
      exact ⟨g, cap, h1, hc, hm, hg, (Array.getElem?_eq_some_iff.1 hh).1⟩
  obtain ⟨g, c, rfl, hc1, hc2, hg1, hg2⟩ := hform
  have D1 : Hid (∀ j, j < n + 1 → w1.cell? ⟨g, j, none⟩ = some (.int .i64 (l.getD j 0))) := by
    intro j hj
    have h := O1.out
    rw [HLEN.out] at h
    rw [h.cellAt j (by omega), ints_get l j (by rw [HLEN.out]; omega)]
  go_wp2_with fail
  go_loopw [3, 5] (fun vo i wr => ∃ k : Nat, i = .int .i64 ((k : Int) + 1) ∧ k ≤ n ∧ Aside (wr.ownsRow w1.heap.size 9 1 vo k (strs (piecesK s l k)) ∧ Below w1.heap.size w1 wr)) (fun _ i _ => n + 1 - (intOf i).toNat)
  case atStart => exact ⟨0, rfl, by omega, World.ownsRow_nil _ _ _ _, Below.refl _ _⟩
  case round =>
    obtain ⟨k, rfl, hk, HX⟩ := hrel
    by_cases hlt : k < n
    · have d0 := D1.out k (by omega)
      have d1 := D1.out (k + 1) (by omega)
      have htw := HT.out k hlt
      have hps := piecesK_succ s l k
      obtain ⟨a, ha⟩ : ∃ a, l.getD k 0 = a := ⟨_, rfl⟩
      obtain ⟨b, hb⟩ : ∃ b, l.getD (k + 1) 0 = b := ⟨_, rfl⟩
      rw [ha] at d0 htw hps
      rw [hb] at d1 htw hps
      rw [← HX.out.2.cell (p := ⟨g, k, none⟩) hg2] at d0
      rw [← HX.out.2.cell (p := ⟨g, k + 1, none⟩) hg2] at d1
      obtain ⟨ha0, hab, hbs⟩ := htw
      have HPS := Lib.hid hps
      clear ha hb hps
      have HO := Lib.hid HX.out.1
      have HB := aside HX.out.2
      have hsz := HX.out.2.size
      have ag : u3.ownBlock ≠ some g := fun e => by have := (HX.out.1.lt g e).1; omega
      have hi0' : (0 : Int) ≤ (k : Int) := Int.natCast_nonneg _
      have hwr1 : IntKind.i64.wrap ((k : Int) + 1 - 1) = (k : Int) := by rw [show (k : Int) + 1 - 1 = k by omega]; exact wrap_in _ (by omega) (by omega)
      have hwr2 : IntKind.i64.wrap (k : Int) = (k : Int) := wrap_in _ (by omega) (by omega)
      have hi1 : (k : Int) < ((n + 1 : Nat) : Int) := by omega
      have hi2 : (0 : Int) ≤ (k : Int) + 1 := by omega
      have hi3 : (k : Int) + 1 < ((n + 1 : Nat) : Int) := by omega
      have hi4 : (k : Int) < (n : Int) + 1 := by omega
      have hi5 : (k : Int) + 1 < (n : Int) + 1 := by omega
      have hi6 : a ≤ b := by omega
      have hi7 : 0 ≤ b := by omega
      go_wp2_with fail
      go_region_held3 (fun w' => w'.cell? ⟨g, k, none⟩ = some (.int .i64 a) ∧ w'.cell? ⟨g, k + 1, none⟩ = some (.int .i64 b))
        (first
          | go_keep
          | (go_split_ands
             refine ⟨?_, ?_⟩
             · (rw [hgrow.cell_far _ (by simp; omega) (Ne.symm ag)]; assumption)
             · (rw [hgrow.cell_far _ (by simp; omega) (Ne.symm ag)]; assumption)))
        ((refine step_append_lies _ (by rfl) _ _ _ (by rfl) w1.heap.size 9 i0 _ 1 16 Try.underlying30 hi hz0 hz1 hz2 rfl (by omega) u3 k (strs (piecesK s l k)) (by rfl) ((HO.out.alloc _).drew)
            ⟨wr.heap.size, 0, none⟩ 1 1 [.string (s.extract a.toNat b.toNat)] (by rfl) (by rfl) (World.news_of_block (cs := #[.string (s.extract a.toNat b.toNat)]) (t := 9) (fr := (0, 0)) (heap_alloc_new wr _)) (by simp [Value.oneCell'])
            (by omega) (by unfold maxLen; omega) (by omega) (by simp; omega) (wr.heap.size + 1) (by simp) ?_; intro gg cap w3 hown' hgrow hat hlt3))
      have X : Aside (w3.ownsRow w1.heap.size 9 1 (.slice (some ⟨gg, 0, none⟩) (k + 1) cap) (k + 1) (strs (piecesK s l (k + 1))) ∧ Below w1.heap.size w1 w3) :=
        ⟨by rw [HPS.out, strs_append]; exact hown', Below.grown (below_drewN (HB.out.alloc hsz _) 1) hgrow (by simp; omega) (fun j hj => by have := (HO.out.lt _ hj).1; omega)⟩
      clear hown' hgrow hat
      go_wp2
      go_roundw
      case rel => exact ⟨k + 1, by go_num, by omega, X⟩
      case measure => simp [intOf]; omega
    · obtain rfl : k = n := by omega
      go_wp2_with fail
      go_ret
      exact ⟨_, rfl, by rw [← HFIN.out]; exact own_base HX.out.1 hs1, B1.out.trans (HX.out.2.mono hs1)⟩

end Go.Proofs.Ytaocnnebfnlgiaa
