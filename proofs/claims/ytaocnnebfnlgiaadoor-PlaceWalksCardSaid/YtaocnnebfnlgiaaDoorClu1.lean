/-
  Contracts: Joined, Starts of the program's clusters.
-/
import Derived.Test.YtaocnnebfnlgiaaDoorReader
import Derived.Test.YtaocnnebfnlgiaaDoorUtf1
import Derived.Test.YtaocnnebfnlgiaaDoorUtf3
namespace Go.Proofs.YtaocnnebfnlgiaaDoor
open Go.RowKit

theorem Rk.alloc {w w' : World} {B : Nat} (h : Rk B w w') (o : Obj) : Rk B w (w'.alloc o) :=
  ⟨h.os, h.tape, h.output, Nat.le_trans h.size (by simp), fun j hj hx => (Below.heap_alloc _ _ _ (Nat.lt_of_lt_of_le hj h.size)).trans (h.block j hj hx)⟩
theorem Rk.grown {w w' w'' : World} {B : Nat} (h : Rk B w w') {row : Option Nat} (hg : w'.grownBy w'' row) (hr : ∀ k, row = some k → w.heap.size ≤ k) : Rk B w w'' :=
  ⟨hg.os.trans h.os, hg.tape.trans h.tape, hg.output.trans h.output, Nat.le_trans h.size hg.size, fun j hj hx => (hg.block j (Nat.lt_of_lt_of_le hj h.size) (fun e => by have := hr j e.symm; omega)).trans (h.block j hj hx)⟩
theorem RCells.alloc {w : World} {B : Nat} {s : RS} (h : RCells w B s) (o : Obj) : RCells (w.alloc o) B s := h.keep fun _ hk _ _ => Below.heap_alloc _ _ _ hk
theorem RCells.grown {w w' : World} {B : Nat} {s : RS} (h : RCells w B s) {row : Option Nat} (hg : w.grownBy w' row) (hr : ∀ k, row = some k → B + 5 ≤ k) : RCells w' B s :=
  h.keep fun k hk _ h5 => hg.block k hk (fun e => by have := hr k e.symm; omega)

/-- Is one more joined to these? -/
def joinedB (a : List Int) (c : Int) : Bool := rIs (rRun (a.map ofI)) (ofI c)
theorem run_take (l : List Int) (k : Nat) (hk : k < l.length) : rRun ((l.take (k + 1)).map ofI) = rNext (rRun ((l.take k).map ofI)) (ofI (l.getD k 0)) := by
  rw [List.take_succ_eq_append_getElem hk, List.map_append, List.map_cons, List.map_nil, rRun_snoc]
  simp [hk]
theorem run_flags (l : List Int) (k : Nat) : 0 ≤ (rRun ((l.take k).map ofI)).flags ∧ (rRun ((l.take k).map ofI)).flags ≤ k := by
  have h := rRun_flags ((l.take k).map ofI)
  have h2 : ((l.take k).map ofI).length ≤ k := by rw [List.length_map]; exact List.length_take_le _ _
  omega


/-- Where clusters begin: of characters with their places. -/
def startsC : RS → List Int → List Int → List Int
  | s, c :: cs, p :: ps => (if rIs s (ofI c) = true then [] else [p]) ++ startsC (rNext s (ofI c)) cs ps
  | _, _, _ => []
def cstarts (s : ByteArray) : List Int := startsC rs0 (chars s) (starts0 s) ++ [(s.size : Int)]
theorem startsC_snoc : ∀ (cs ps : List Int) (s : RS) (c p : Int), cs.length = ps.length → startsC s (cs ++ [c]) (ps ++ [p]) = startsC s cs ps ++ (if rIs (cs.foldl (fun s c => rNext s (ofI c)) s) (ofI c) = true then [] else [p])
  | [], [], s, c, p, _ => by
    show (if rIs s (ofI c) = true then [] else [p]) ++ [] = [] ++ _
    rw [List.append_nil, List.nil_append]
    rfl
  | c0 :: cs, p0 :: ps, s, c, p, h => by
    have ih := startsC_snoc cs ps (rNext s (ofI c0)) c p (by simpa using h)
    show (if rIs s (ofI c0) = true then [] else [p0]) ++ startsC (rNext s (ofI c0)) (cs ++ [c]) (ps ++ [p]) = ((if rIs s (ofI c0) = true then [] else [p0]) ++ startsC (rNext s (ofI c0)) cs ps) ++ _
    rw [ih, List.append_assoc]
    rfl
theorem fold_run (l : List Int) : l.foldl (fun s c => rNext s (ofI c)) rs0 = rRun (l.map ofI) := by
  unfold rRun
  rw [List.foldl_map]
theorem startsC_le : ∀ (cs ps : List Int) (s : RS), (startsC s cs ps).length ≤ cs.length
  | [], _, _ => by simp [startsC]
  | _ :: _, [], _ => by simp [startsC]
  | c :: cs, p :: ps, s => by
    have ih := startsC_le cs ps (rNext s (ofI c))
    unfold startsC
    rw [List.length_append]
    split
    · simp; omega
    · simp; omega

theorem info_int5 : (Tryd.prog.info? 3).map (fun i => (i.zero, i.size, i.bytes)) = some (some (.int .i64 0), 1, 8) := by kernel_rfl

theorem charsFrom_bd (s : ByteArray) : ∀ f p, ∀ c ∈ charsFrom s f p, 0 ≤ c ∧ c ≤ 2147483647
  | 0, _, _, h => by cases h
  | f + 1, p, c, h => by
    unfold charsFrom at h
    split at h
    · rcases List.mem_cons.1 h with rfl | h
      · have := decode_le s p
        omega
      · exact charsFrom_bd s f _ c h
    · cases h

set_option maxRecDepth 100000 in
set_option maxHeartbeats 4000000 in
theorem cstarts_any (s : ByteArray) (w : World) (hs : s.size ≤ 1000) :
    Calls Tryd.prog 20 #[.string s] w fun e w' => ∃ v, e = .returned v ∧ w'.ownsRow w.heap.size 3 1 v (cstarts s).length (ints (cstarts s)) ∧ Below w.heap.size w w' := by
  obtain ⟨i0, hi, hz0, hz1, hz2⟩ := info_parts info_int5
  have CS := Lib.hid (fun W : World => ustarts_any s W (by omega))
  have CA := Lib.hid (fun W : World => uall_any s W (by omega))
  have hcl := chars_len_le s
  have hcs := chars_len s
  have hbd : ∀ j, j < (chars s).length → 0 ≤ (chars s).getD j 0 ∧ (chars s).getD j 0 ≤ 2147483647 := by
    intro j hj
    have e : (chars s).getD j 0 = (chars s)[j] := by simp [hj]
    rw [e]
    exact charsFrom_bd s _ _ _ (List.getElem_mem hj)
  have hst : ∀ j, j < (chars s).length → (starts s).getD j 0 = (starts0 s).getD j 0 := by
    intro j hj
    unfold starts
    rw [List.getD_eq_getElem?_getD, List.getD_eq_getElem?_getD, List.getElem?_append_left (by omega)]
  have hlen2 : (starts s).length = (chars s).length + 1 := by unfold starts; rw [List.length_append, ← hcs]; rfl
  have hfin : Hid (startsC rs0 (chars s) (starts0 s) ++ [(s.size : Int)] = cstarts s) := rfl
  obtain ⟨cs, hC⟩ : ∃ cs, chars s = cs := ⟨_, rfl⟩
  obtain ⟨ps, hP⟩ : ∃ ps, starts0 s = ps := ⟨_, rfl⟩
  obtain ⟨qs, hQ⟩ : ∃ qs, starts s = qs := ⟨_, rfl⟩
  rw [hC] at CA hcl hcs hbd hst hlen2 hfin
  rw [hP] at hcs hst hfin
  rw [hQ] at CS hst hlen2
  have HBD := Lib.hid hbd
  have HST := Lib.hid hst
  have HCS := Lib.hid hcs
  have HL2 := Lib.hid hlen2
  clear hC hP hQ hbd hst hcs hlen2
  go_enter Tryd.func20, Tryd.ntmps20
  go_wp2_with fail
  refine (reader_any w).mono ?_
  rintro e w1 ⟨rfl, hr1, b1, hs1⟩
  have R1 := Lib.hid hr1
  have B1 := aside b1
  have HS1 := Lib.hid hs1
  clear hr1 b1 hs1
  simp only [rClo]
  go_wp2_with fail
  refine (CS.out w1).mono ?_
  rintro e w2 ⟨v2, rfl, o2, b2⟩
  have R2 := Lib.hid (R1.out.below b2 (Nat.le_refl _))
  have O2 := Lib.hid o2
  have B2 := aside (B1.out.trans (b2.mono B1.out.size))
  have hs2 := b2.size
  clear o2 b2
  go_wp2_with fail
  refine (CA.out w2).mono ?_
  rintro e w3 ⟨v3, rfl, o3, b3⟩
  have R3 := Lib.hid (R2.out.below b3 (Nat.le_refl _))
  have O23 := Lib.hid (own_below O2.out b3 (Nat.le_refl _))
  have O3 := Lib.hid o3
  have B3 := aside (B2.out.trans (b3.mono B2.out.size))
  have hs3 := b3.size
  clear o3 b3
  have hform3 : ∃ A c, v3 = .slice A cs.length c ∧ cs.length ≤ c ∧ c ≤ 9223372036854775807 ∧ ((∃ g, A = some ⟨g, 0, none⟩ ∧ w2.heap.size + 1 ≤ g ∧ g < w3.heap.size) ∨ cs.length ≤ 0) := by
    have h := O3.out
    rcases h.2 with ⟨h1, h0⟩ | ⟨g, cap, cur, h1, hg, hh, hc, hm, _⟩
    · exact ⟨none, 0, by rw [h1, h0], by omega, by omega, .inr (by omega)⟩
    · exact ⟨_, cap, h1, hc, hm, .inl ⟨g, rfl, hg, (Array.getElem?_eq_some_iff.1 hh).1⟩⟩
  have hform2 : ∃ g c, v2 = .slice (some ⟨g, 0, none⟩) (cs.length + 1) c ∧ cs.length + 1 ≤ c ∧ c ≤ 9223372036854775807 ∧ w1.heap.size + 1 ≤ g ∧ g < w3.heap.size := by
    have h := O23.out
    rcases h.2 with ⟨h1, h0⟩ | ⟨g, cap, cur, h1, hg, hh, hc, hm, _⟩
    · rw [HL2.out] at h0; omega
    · rw [HL2.out] at h1 hc
      exact ⟨g, cap, h1, hc, hm, hg, (Array.getElem?_eq_some_iff.1 hh).1⟩
  obtain ⟨A3, c3, rfl, hc31, hc32, hA3⟩ := hform3
  obtain ⟨g2, c2, rfl, hc21, hc22, hg21, hg22⟩ := hform2
  have D2 : Hid (∀ j, j < cs.length → w3.cell? ⟨g2, j, none⟩ = some (.int .i64 (ps.getD j 0))) := by
    intro j hj
    have h := O23.out
    rw [HL2.out] at h
    rw [h.cellAt j (by omega), ints_get qs j (by rw [HL2.out]; omega), HST.out j hj]
  rcases hA3 with ⟨g3, rfl, hg31, hg32⟩ | hn
  all_goals
    go_wp2_with fail
    go_loopw [5, 14] (fun vo i wr => ∃ k : Nat, i = .int .i64 k ∧ k ≤ cs.length ∧ Aside (RCells wr w.heap.size (rRun ((cs.take k).map ofI)) ∧ Rk w.heap.size w3 wr ∧ wr.ownsRow w3.heap.size 3 1 vo (startsC rs0 (cs.take k) (ps.take k)).length (ints (startsC rs0 (cs.take k) (ps.take k))))) (fun _ i _ => cs.length - (intOf i).toNat)
    case atStart => exact ⟨0, rfl, by omega, R3.out, Rk.refl _ _, World.ownsRow_nil _ _ _ _⟩
    case round =>
      obtain ⟨k, rfl, hk, HX⟩ := hrel
      by_cases hlt : k < cs.length
      · first
          | (exfalso; omega)
          | (have hB5 := HS1.out
             have e3 := O3.out.cellAt k (by omega)
             rw [ints_get cs k hlt] at e3
             rw [← HX.out.2.1.cell (p := ⟨g3, k, none⟩) hg32 (.inr (by simp only; omega))] at e3
             have e2 := D2.out k hlt
             have hxb := HBD.out k hlt
             have hrt := run_take cs k hlt
             have hfl := run_flags cs k
             have hsn : startsC rs0 (cs.take (k + 1)) (ps.take (k + 1)) = startsC rs0 (cs.take k) (ps.take k) ++ (if rIs (rRun ((cs.take k).map ofI)) (ofI (cs.getD k 0)) = true then [] else [ps.getD k 0]) := by
               have hpl : k < ps.length := by have := HCS.out; omega
               rw [List.take_succ_eq_append_getElem hlt, List.take_succ_eq_append_getElem hpl, startsC_snoc _ _ _ _ _ (by simp; omega), fold_run]
               simp [hlt, hpl]
             have hsl := startsC_le (cs.take k) (ps.take k) rs0
             have htl : (cs.take k).length ≤ k := List.length_take_le _ _
             obtain ⟨c, hc⟩ : ∃ c, cs.getD k 0 = c := ⟨_, rfl⟩
             obtain ⟨p, hp⟩ : ∃ p, ps.getD k 0 = p := ⟨_, rfl⟩
             rw [hc] at e3 hxb hrt hsn
             rw [hp] at e2 hsn
             obtain ⟨hx0, hx1⟩ := hxb
             obtain ⟨st, hst⟩ : ∃ st, startsC rs0 (cs.take k) (ps.take k) = st := ⟨_, rfl⟩
             have HO := HX.out.2.2
             rw [hst] at hsn hsl HO
             have HOO := Lib.hid HO
             have hvb : ∀ g, u5.ownBlock = some g → w3.heap.size ≤ g := fun g hg => (HO.lt g hg).1
             have HVB := Lib.hid hvb
             have HRT := Lib.hid hrt
             have HFL := Lib.hid hfl
             have HSN := Lib.hid hsn
             have E2 := Lib.hid e2
             have CT := Lib.hid (rstep_any w.heap.size _ c wr HX.out.1 (by omega) (by omega) HFL.out.1 (by have := HFL.out.2; omega))
             obtain ⟨isb, hisb⟩ : ∃ isb, rIs (rRun ((cs.take k).map ofI)) (ofI c) = isb := ⟨_, rfl⟩
             rw [hisb] at CT HSN
             clear hrt hfl hc hp hst hsn e2 hvb hisb HO
             cases isb with
             | true =>
               go_wp2_with fail
               refine CT.out.mono ?_
               rintro e w4 ⟨rfl, hr4, k4⟩
               rw [← HRT.out] at hr4
               have X4 : Aside (RCells w4 w.heap.size (rRun ((cs.take (k + 1)).map ofI)) ∧ Rk w.heap.size w3 w4 ∧ w4.ownsRow w3.heap.size 3 1 u5 (startsC rs0 (cs.take (k + 1)) (ps.take (k + 1))).length (ints (startsC rs0 (cs.take (k + 1)) (ps.take (k + 1))))) := by
                 refine ⟨hr4, HX.out.2.1.trans k4, ?_⟩
                 rw [HSN.out, if_pos trivial, List.append_nil]
                 exact k4.own HOO.out (fun g hg => .inr (by have := HVB.out g hg; omega))
               clear hr4 k4
               go_wp2
               go_roundw
               case rel => exact ⟨k + 1, by go_num, by omega, X4⟩
               case measure => simp [intOf]; omega
             | false =>
               go_wp2_with fail
               refine CT.out.mono ?_
               rintro e w4 ⟨rfl, hr4, k4⟩
               rw [← HRT.out] at hr4
               have hk34 := HX.out.2.1.trans k4
               have e24 : w4.cell? ⟨g2, k, none⟩ = some (.int .i64 p) := by rw [hk34.cell (p := ⟨g2, k, none⟩) hg22 (.inr (by simp only; omega))]; exact E2.out
               have ho4 := k4.own HOO.out (fun g hg => .inr (by have := HVB.out g hg; omega))
               have hsz4 := hk34.size
               have X4 := aside (And.intro hr4 (And.intro hk34 ho4))
               clear hr4 k4 hk34 ho4
               go_wp2_with (first
                 | (at_builtin
                    refine wpList_append_own _ rfl (.tmp 23) (.tmp 28) 23 rfl w3.heap.size 3 i0 (.int .i64 0) 1 8 Tryd.underlying23 hi hz0 hz1 hz2 rfl (by decide) _ _ _ rfl (X4.out.2.2.alloc _) ⟨w4.heap.size, 0, none⟩ 1 1 [.int .i64 p] rfl rfl (cell_one_new _ _ _) (fun x hx => by simp at hx; subst hx; rfl) (by unfold maxLen; omega) (by omega) (by simp; omega) ?_
                    intro v' w5 hown' hgrow hnil
                    have X5 : Aside (RCells w5 w.heap.size (rRun ((cs.take (k + 1)).map ofI)) ∧ Rk w.heap.size w3 w5 ∧ w5.ownsRow w3.heap.size 3 1 v' (startsC rs0 (cs.take (k + 1)) (ps.take (k + 1))).length (ints (startsC rs0 (cs.take (k + 1)) (ps.take (k + 1))))) := by
                      refine ⟨(X4.out.1.alloc _).grown hgrow (fun g hg => by have := HVB.out g hg; omega), (X4.out.2.1.alloc _).grown hgrow (fun g hg => HVB.out g hg), ?_⟩
                      rw [HSN.out, if_neg (by simp), List.length_append, ints_append]
                      exact hown'
                    clear hown' hgrow hnil))
               go_roundw
               case rel => exact ⟨k + 1, by go_num, by omega, X5⟩
               case measure => simp [intOf]; omega)
      · have hB5 := HS1.out
        have HE : Hid (startsC rs0 (cs.take k) (ps.take k) = startsC rs0 cs ps) := by
          show _ = _
          rw [List.take_of_length_le (by omega), List.take_of_length_le (by have := HCS.out; omega)]
        have hsl := startsC_le cs ps rs0
        have HO := HX.out.2.2
        rw [HE.out] at HO
        have HOO := Lib.hid HO
        have hszr := HX.out.2.1.size
        have HF := hfin.out
        obtain ⟨st, hst⟩ : ∃ st, startsC rs0 cs ps = st := ⟨_, rfl⟩
        rw [hst] at hsl HOO HF
        have HFF := Lib.hid HF
        clear hst HO HF
        go_wp2_with (first
          | (at_builtin
             refine wpList_append_own _ rfl (.tmp 31) (.tmp 34) 23 rfl w3.heap.size 3 i0 (.int .i64 0) 1 8 Tryd.underlying23 hi hz0 hz1 hz2 rfl (by decide) _ _ _ rfl (HOO.out.alloc _) ⟨wr.heap.size, 0, none⟩ 1 1 [.int .i64 (s.size : Int)] rfl rfl (cell_one_new _ _ _) (fun x hx => by simp at hx; subst hx; rfl) (by unfold maxLen; omega) (by omega) (by simp; omega) ?_
             intro v' w5 hown' hgrow hnil
             have X5 : Aside (w5.ownsRow w.heap.size 3 1 v' (cstarts s).length (ints (cstarts s)) ∧ Below w.heap.size w w5) := by
               refine ⟨?_, B3.out.trans (((HX.out.2.1.alloc _).grown hgrow (fun g hg => (HOO.out.lt g hg).1)).below (by omega))⟩
               rw [← HFF.out, List.length_append, ints_append]
               exact own_base hown' (by omega)
             clear hown' hgrow hnil))
        go_ret
        exact ⟨_, rfl, X5.out.1, X5.out.2⟩

end Go.Proofs.YtaocnnebfnlgiaaDoor
