/-
  The walk of ClusterFamilies.
-/
import Derived.Test.YtaocnnebfnlgiaaFlagsW
namespace Go.Proofs.Ytaocnnebfnlgiaa
open Go.RowKit

/-- One family's member: a Picto, and so many Extends. -/
def memb (j : Nat) : List Int := 128512 :: List.replicate j 65039
def famT : List Nat → List Int
  | [] => []
  | j :: js => memb j ++ famT js
def famS : List Nat → List Int
  | [] => []
  | j :: js => memb j ++ (js.flatMap fun i => 8205 :: memb i)
theorem memb_map (j : Nat) : (memb j).map ofI = 14 :: List.replicate j 4 := by
  have e1 : ofI 128512 = 14 := by decide +kernel
  have e2 : ofI 65039 = 4 := by decide +kernel
  simp [memb, e1, e2]
theorem memb_may (j : Nat) : ∀ c ∈ memb j, mayB c = true := by
  intro c hc
  rcases List.mem_cons.1 hc with rfl | hc
  · decide
  · rw [List.eq_of_mem_replicate hc]; decide
theorem famT_may : ∀ js, ∀ c ∈ famT js, mayB c = true
  | [], _, h => by cases h
  | j :: js, c, h => by
    rcases List.mem_append.1 h with h | h
    · exact memb_may j c h
    · exact famT_may js c h
theorem famS_may (js : List Nat) : ∀ c ∈ famS js, mayB c = true := by
  intro c h
  cases js with
  | nil => cases h
  | cons j js =>
    rcases List.mem_append.1 h with h | h
    · exact memb_may j c h
    · obtain ⟨i, _, hi⟩ := List.mem_flatMap.1 h
      rcases List.mem_cons.1 hi with rfl | hi
      · decide
      · exact memb_may i c hi

/-- Behind a member. -/
def InFam (s : RS) : Prop := s.any = true ∧ (s.last = 14 ∨ s.last = 4) ∧ s.picto = true ∧ s.linked = false
theorem ext_step (s : RS) (h : InFam s) : rIs s 4 = true ∧ InFam (rNext s 4) := by
  obtain ⟨h1, h2, h3, h4⟩ := h
  have hb : brkB s.last = false := by rcases h2 with h | h <;> (rw [h]; rfl)
  refine ⟨?_, rfl, .inr rfl, ?_, ?_⟩
  · have e1 : ¬ (s.last = 1 ∧ (4 : Int) = 2) := by omega
    have e2 : ¬ (brkB s.last = true ∨ brkB 4 = true) := by rw [hb]; decide
    unfold rIs
    rw [if_neg (by rw [h1]; simp), if_neg e1, if_neg e2, if_pos (.inr (.inl rfl))]
  · show (decide ((4 : Int) = 14) || (s.picto && decide ((4 : Int) = 4))) = true
    rw [h3]; rfl
  · show (s.picto && decide ((4 : Int) = 5)) = false
    simp
theorem ext_run : ∀ (j : Nat) (s : RS), InFam s → countK s (List.replicate j 4) = 0 ∧ InFam ((List.replicate j 4).foldl rNext s)
  | 0, s, h => ⟨rfl, h⟩
  | j + 1, s, h => by
    obtain ⟨h1, h2⟩ := ext_step s h
    obtain ⟨h3, h4⟩ := ext_run j _ h2
    rw [List.replicate_succ]
    refine ⟨?_, h4⟩
    show (if rIs s 4 = true then 0 else 1) + countK (rNext s 4) (List.replicate j 4) = 0
    rw [h3, if_pos h1]
theorem memb_run (j : Nat) (s : RS) (b : Bool) (hb : rIs s 14 = b) (hp : s.picto = true ∨ True) (hl : (rNext s 14).linked = false) :
    countK s ((memb j).map ofI) = (if b = true then 0 else 1) ∧ InFam (((memb j).map ofI).foldl rNext s) := by
  rw [memb_map]
  have hin : InFam (rNext s 14) := ⟨rfl, .inl rfl, by simp [rNext], hl⟩
  obtain ⟨h3, h4⟩ := ext_run j _ hin
  refine ⟨?_, h4⟩
  show (if rIs s 14 = true then 0 else 1) + countK (rNext s 14) (List.replicate j 4) = _
  rw [h3, hb]
  rfl
theorem linked14 (s : RS) : (rNext s 14).linked = false := by
  show (s.picto && decide ((14 : Int) = 5)) = false
  simp
theorem fam_apart (s : RS) (h : InFam s) : rIs s 14 = false := by
  obtain ⟨h1, h2, h3, h4⟩ := h
  have hb : brkB s.last = false := by rcases h2 with h | h <;> (rw [h]; rfl)
  have hg : hglB s.last 14 = false := by rcases h2 with h | h <;> (rw [h]; rfl)
  have e1 : ¬ (s.last = 1 ∧ (14 : Int) = 2) := by omega
  have e2 : ¬ (brkB s.last = true ∨ brkB 14 = true) := by rw [hb]; decide
  have e3 : ¬ (hglB s.last 14 = true ∨ (14 : Int) = 4 ∨ (14 : Int) = 5 ∨ (14 : Int) = 8 ∨ s.last = 7) := by rw [hg]; simp; omega
  unfold rIs
  rw [if_neg (by rw [h1]; simp), if_neg e1, if_neg e2, if_neg e3, if_pos rfl, h4]
theorem zwj_step (s : RS) (h : InFam s) : rIs s 5 = true ∧ rIs (rNext s 5) 14 = true := by
  obtain ⟨h1, h2, h3, h4⟩ := h
  have hb : brkB s.last = false := by rcases h2 with h | h <;> (rw [h]; rfl)
  constructor
  · have e1 : ¬ (s.last = 1 ∧ (5 : Int) = 2) := by omega
    have e2 : ¬ (brkB s.last = true ∨ brkB 5 = true) := by rw [hb]; decide
    unfold rIs
    rw [if_neg (by rw [h1]; simp), if_neg e1, if_neg e2, if_pos (.inr (.inr (.inl rfl)))]
  · have e : rNext s 5 = ⟨true, 5, 0, false, true⟩ := by unfold rNext; rw [h3]; rfl
    rw [e]; rfl
theorem famT_count : ∀ (js : List Nat) (s : RS), (InFam s ∨ s = rs0) → countK s ((famT js).map ofI) = js.length
  | [], s, _ => rfl
  | j :: js, s, h => by
    have hb : rIs s 14 = false := by
      rcases h with h | rfl
      · exact fam_apart s h
      · rfl
    obtain ⟨h1, h2⟩ := memb_run j s false hb (.inr trivial) (linked14 s)
    have ih := famT_count js _ (.inl h2)
    show countK s ((memb j ++ famT js).map ofI) = _
    rw [List.map_append, countK_app, h1, ih]
    simp
    omega
theorem famS_more : ∀ (js : List Nat) (s : RS), InFam s → countK s ((js.flatMap fun i => 8205 :: memb i).map ofI) = 0
  | [], s, _ => rfl
  | j :: js, s, h => by
    obtain ⟨h1, h2⟩ := zwj_step s h
    obtain ⟨h3, h4⟩ := memb_run j (rNext s 5) true h2 (.inr trivial) (linked14 _)
    have ih := famS_more js _ h4
    have e5 : ofI 8205 = 5 := by decide +kernel
    have e : ((j :: js).flatMap fun i => 8205 :: memb i).map ofI = 5 :: ((memb j).map ofI ++ (js.flatMap fun i => 8205 :: memb i).map ofI) := by
      simp [e5]
    rw [e]
    show (if rIs s 5 = true then 0 else 1) + countK (rNext s 5) _ = 0
    rw [if_pos h1, countK_app, h3, ih]
    rfl
theorem famS_count (js : List Nat) : countK rs0 ((famS js).map ofI) = min js.length 1 := by
  cases js with
  | nil => rfl
  | cons j js =>
    obtain ⟨h1, h2⟩ := memb_run j rs0 false rfl (.inr trivial) (linked14 _)
    show countK rs0 ((memb j ++ _).map ofI) = _
    rw [List.map_append, countK_app, h1, famS_more js _ h2]
    simp

def jsK (l : List Int) (k : Nat) : List Nat := (l.take k).map fun x => (aroundI x 4).toNat
theorem jsK_snoc (l : List Int) (k : Nat) (hk : k < l.length) : jsK l (k + 1) = jsK l k ++ [(aroundI (l.getD k 0) 4).toNat] := by
  unfold jsK
  rw [List.take_succ_eq_append_getElem hk, List.map_append]
  simp [hk]
theorem jsK_len (l : List Int) (k : Nat) (hk : k ≤ l.length) : (jsK l k).length = k := by unfold jsK; simp; omega
theorem jsK_bd (l : List Int) (k : Nat) : ∀ j ∈ jsK l k, j ≤ 3 := by
  intro j hj
  obtain ⟨x, _, rfl⟩ := List.mem_map.1 hj
  have := aroundI_bd x 4 (by omega)
  omega
theorem memb_len (j : Nat) : (memb j).length = j + 1 := by simp [memb]
theorem famT_len : ∀ js : List Nat, (∀ j ∈ js, j ≤ 3) → (famT js).length ≤ 4 * js.length
  | [], _ => by simp [famT]
  | j :: js, h => by
    have ih := famT_len js (fun i hi => h i (List.mem_cons_of_mem _ hi))
    have hj := h j (List.mem_cons_self ..)
    have hm := memb_len j
    show (memb j ++ famT js).length ≤ _
    rw [List.length_append, List.length_cons]
    omega
theorem famM_len : ∀ js : List Nat, (∀ j ∈ js, j ≤ 3) → (js.flatMap fun i => 8205 :: memb i).length ≤ 5 * js.length
  | [], _ => by simp
  | j :: js, h => by
    have ih := famM_len js (fun i hi => h i (List.mem_cons_of_mem _ hi))
    have hj := h j (List.mem_cons_self ..)
    have hm := memb_len j
    rw [List.flatMap_cons, List.length_append, List.length_cons, List.length_cons]
    omega
theorem famS_len (js : List Nat) (h : ∀ j ∈ js, j ≤ 3) : (famS js).length ≤ 5 * js.length := by
  cases js with
  | nil => simp [famS]
  | cons j js =>
    have hj := h j (List.mem_cons_self ..)
    have hm := memb_len j
    have := famM_len js (fun i hi => h i (List.mem_cons_of_mem _ hi))
    show (memb j ++ _).length ≤ _
    rw [List.length_append, List.length_cons]
    omega
theorem famT_snoc : ∀ (js : List Nat) (j : Nat), famT (js ++ [j]) = famT js ++ memb j
  | [], j => by simp [famT]
  | i :: js, j => by
    show memb i ++ famT (js ++ [j]) = (memb i ++ famT js) ++ memb j
    rw [famT_snoc js j, List.append_assoc]
theorem famS_snoc (js : List Nat) (j : Nat) : famS (js ++ [j]) = famS js ++ (if js.length = 0 then memb j else 8205 :: memb j) := by
  cases js with
  | nil => simp [famS]
  | cons i js =>
    show memb i ++ ((js ++ [j]).flatMap fun i => 8205 :: memb i) = (memb i ++ (js.flatMap fun i => 8205 :: memb i)) ++ _
    rw [List.flatMap_append, if_neg (by simp)]
    simp
theorem join_app (a b : List Int) : joinL (a ++ b) = joinL a ++ joinL b := by simp [joinL]
theorem join_memb0 : joinL (memb 0) = [240, 159, 152, 128] := by decide +kernel
theorem join_ext : joinL [65039] = [239, 184, 143] := by decide +kernel
theorem join_zwj : joinL [8205] = [226, 128, 141] := by decide +kernel
theorem join_memb (q : Nat) : joinL (memb (q + 1)) = joinL (memb q) ++ [239, 184, 143] := by
  have e : memb (q + 1) = memb q ++ [65039] := by
    show 128512 :: List.replicate (q + 1) 65039 = _
    rw [List.replicate_succ']
    rfl
  rw [e, join_app, join_ext]
theorem join_memb_len (q : Nat) : (joinL (memb q)).length ≤ 4 * (q + 1) := by
  have := joinL_len (memb q)
  rw [memb_len] at this
  exact this

set_option maxRecDepth 100000 in
set_option maxHeartbeats 4000000 in
theorem clusterFamilies_walk (v0 : Value) (l : List Int) (w : World) (hv : IsInts w v0 l) (hb : ∀ x ∈ l, -9223372036854775808 ≤ x ∧ x ≤ 9223372036854775807) (hl : l.length ≤ 9223372036854775807) :
    Calls Try.prog 3 #[v0] w fun e w' => e = .returned (.bool true) ∧ Below w.heap.size w w' := by
  obtain ⟨A, c, rfl, hlc, hcm, hA⟩ := hv
  have HBD : Hid (∀ j, j < l.length → -9223372036854775808 ≤ l.getD j 0 ∧ l.getD j 0 ≤ 9223372036854775807) := by
    intro j hj
    have e : l.getD j 0 = l[j] := by simp [hj]
    rw [e]
    exact hb _ (List.getElem_mem hj)
  have hcs : (∃ b off, A = some ⟨b, off, none⟩ ∧ Hid (∀ j, j < l.length → w.cell? ⟨b, off + j, none⟩ = some (.int .i64 (l.getD j 0)))) ∨ l.length ≤ 0 := by
    by_cases h0 : 0 < l.length
    · obtain ⟨b, off, rfl, h⟩ := hA h0
      exact .inl ⟨b, off, rfl, h⟩
    · exact .inr (by omega)
  obtain ⟨p, hp6, hpl, hpm⟩ : ∃ p, p ≤ 6 ∧ p ≤ l.length ∧ (p = 6 ∨ p = l.length) := ⟨min l.length 6, by omega, by omega, by omega⟩
  have HMIN : Hid (min (l.length : Int) 6 = (p : Int)) := by show _ = _; omega
  have HPM := Lib.hid hpm
  clear hA hb hpm
  rcases hcs with ⟨b, off, rfl, HC⟩ | hn
  all_goals
    go_enter Try.func3, Try.ntmps3
    go_wp2
    go_loop [3, 4, 5] (fun s t i => ∃ k : Nat, i = .int .i64 k ∧ k ≤ p ∧ s = .string ⟨(joinL (famS (jsK l k))).toArray⟩ ∧ t = .string ⟨(joinL (famT (jsK l k))).toArray⟩) (fun _ _ i => p - (intOf i).toNat)
    case atStart => exact ⟨0, rfl, by omega, rfl, rfl⟩
    case round =>
      obtain ⟨k, rfl, hk, rfl, rfl⟩ := hrel
      have hjl := jsK_len l k (by omega)
      have hjb := jsK_bd l k
      have hTl := famT_len _ hjb
      have hSl := famS_len _ hjb
      have hTj := joinL_len (famT (jsK l k))
      have hSj := joinL_len (famS (jsK l k))
      by_cases hlt : k < p
      · first
          | (exfalso; omega)
          | (have d0 := HC.out k (by omega)
             have hxb := HBD.out k (by omega)
             have hsn := jsK_snoc l k (by omega)
             obtain ⟨x, hx⟩ : ∃ x, l.getD k 0 = x := ⟨_, rfl⟩
             rw [hx] at d0 hxb hsn
             obtain ⟨hx0, hx1⟩ := hxb
             obtain ⟨j, hj, hj4⟩ := cl_around x 4 (by omega)
             have CX := fun W : World => around_any x 4 W hx0 hx1 (by omega) (by omega)
             rw [hj] at CX hsn
             rw [Int.toNat_natCast] at hsn
             have hT2 : joinL (famT (jsK l (k + 1))) = joinL (famT (jsK l k)) ++ joinL (memb j) := by rw [hsn, famT_snoc, join_app]
             have hS2 : joinL (famS (jsK l (k + 1))) = joinL (famS (jsK l k)) ++ (if k = 0 then joinL (memb j) else [226, 128, 141] ++ joinL (memb j)) := by
               rw [hsn, famS_snoc, join_app, hjl]
               by_cases h : k = 0
               · rw [if_pos h, if_pos h]
               · rw [if_neg h, if_neg h]
                 have e : (8205 :: memb j : List Int) = [8205] ++ memb j := rfl
                 rw [e, join_app, join_zwj]
             obtain ⟨ts, hts⟩ : ∃ ts, joinL (famT (jsK l k)) = ts := ⟨_, rfl⟩
             obtain ⟨ss, hss⟩ : ∃ ss, joinL (famS (jsK l k)) = ss := ⟨_, rfl⟩
             rw [hts] at hT2 hTj ⊢
             rw [hss] at hS2 hSj ⊢
             have htb : ts.length ≤ 1000 := by omega
             have hsb : ss.length ≤ 1000 := by omega
             have HT2 := Lib.hid hT2
             have HS2 := Lib.hid hS2
             have hkl : k < l.length := by omega
             have hk6 : k < 6 := by omega
             have HM0 := Lib.hid join_memb0
             clear hsn hx hj hT2 hS2 hts hss hjl hjb hTl hSl hTj hSj
             go_wp2_with fail
             refine (CX w).mono ?_
             rintro e w' ⟨rfl, rfl⟩
             go_wp2_with fail
             go_loop [6, 7] (fun o kk => ∃ q : Nat, q ≤ j ∧ kk = .int .i64 ((j : Int) - (q : Int)) ∧ o = .string ⟨(joinL (memb q)).toArray⟩) (fun _ kk => (intOf kk).toNat)
             case atStart => exact ⟨0, by omega, by simp, by rw [HM0.out]⟩
             case round =>
               obtain ⟨q, hq, rfl, rfl⟩ := hrel
               have hml := join_memb_len q
               have hmq := join_memb q
               by_cases hqj : q < j
               · obtain ⟨mq, hmqq⟩ : ∃ mq, joinL (memb q) = mq := ⟨_, rfl⟩
                 rw [hmqq] at hml hmq ⊢
                 have HMQ := Lib.hid hmq
                 have hmb : mq.length ≤ 100 := by omega
                 clear hmq hmqq hml
                 go_wp2_with fail
                 go_round
                 case rel => exact ⟨q + 1, by omega, by congr 1; omega, by rw [HMQ.out]; exact cf_str _ _⟩
                 case measure => simp [intOf]; omega
               · obtain rfl : q = j := by omega
                 obtain ⟨mq, hmqq⟩ : ∃ mq, joinL (memb q) = mq := ⟨_, rfl⟩
                 rw [hmqq] at hml hmq HT2 HS2 ⊢
                 have hmb : mq.length ≤ 100 := by omega
                 clear hmq hmqq hml
                 by_cases hk0 : k = 0
                 · have HS3 : Hid (joinL (famS (jsK l (k + 1))) = ss ++ mq) := by show _ = _; rw [HS2.out, if_pos hk0]
                   have hd : decide (0 < k) = false := by simp; omega
                   have hd2 : decide ((0 : Int) < (k : Int)) = false := by simp; omega
                   have HK0 := Lib.hid hk0
                   clear hk0
                   go_wp2_with fail
                   go_round
                   case rel => exact ⟨k + 1, by go_num, by omega, by rw [HS3.out]; exact cf_str _ _, by rw [HT2.out]; exact cf_str _ _⟩
                   case measure => simp [intOf]; omega
                 · have HS3 : Hid (joinL (famS (jsK l (k + 1))) = ss ++ ([226, 128, 141] ++ mq)) := by show _ = _; rw [HS2.out, if_neg hk0]
                   have hd : decide (0 < k) = true := by simp; omega
                   have hd2 : decide ((0 : Int) < (k : Int)) = true := by simp; omega
                   have HK0 := Lib.hid hk0
                   clear hk0
                   go_wp2_with fail
                   go_round
                   case rel => exact ⟨k + 1, by go_num, by omega, by rw [HS3.out, ← cf_app, ← cf_app], by rw [HT2.out]; exact cf_str _ _⟩
                   case measure => simp [intOf]; omega)
      · obtain rfl : k = p := by omega
        have hex : l.length ≤ k ∨ (k < l.length ∧ 6 ≤ k) := by
          have := HPM.out
          omega
        have hcT := clen_join _ (famT_may (jsK l k))
        have hcS := clen_join _ (famS_may (jsK l k))
        rw [famT_count _ _ (.inr rfl), hjl] at hcT
        rw [famS_count, hjl] at hcS
        have CT := fun W : World => clen_any ⟨(joinL (famT (jsK l k))).toArray⟩ W (by show (joinL (famT (jsK l k))).toArray.size ≤ _; rw [List.size_toArray]; omega)
        have CS := fun W : World => clen_any ⟨(joinL (famS (jsK l k))).toArray⟩ W (by show (joinL (famS (jsK l k))).toArray.size ≤ _; rw [List.size_toArray]; omega)
        rw [hcT] at CT
        rw [hcS] at CS
        obtain ⟨ts, hts⟩ : ∃ ts, joinL (famT (jsK l k)) = ts := ⟨_, rfl⟩
        obtain ⟨ss, hss⟩ : ∃ ss, joinL (famS (jsK l k)) = ss := ⟨_, rfl⟩
        rw [hts] at CT ⊢
        rw [hss] at CS ⊢
        have HCT := Lib.hid CT
        have HCS := Lib.hid CS
        have hmm : (((min k 1 : Nat) : Int) == min (k : Int) 1) = true := by simp; omega
        clear CT CS hcT hcS hts hss hjl hjb hTl hSl hTj hSj
        rcases hex with hex | ⟨hex1, hex2⟩
        all_goals try (exfalso; omega)
        all_goals
          go_wp2_with fail
          rw [HMIN.out]
          refine (HCS.out w).mono ?_
          rintro e w1 ⟨rfl, b1⟩
          have B1 := aside b1
          clear b1
          go_wp2_with fail
          refine (HCT.out w1).mono ?_
          rintro e w2 ⟨rfl, b2⟩
          have B2 := aside (B1.out.trans (b2.mono B1.out.size))
          clear b2
          go_wp2_with fail
          refine (lives3 _).mono ?_
          rintro e w3 ⟨rfl, b3⟩
          go_wp2
          go_ret
          exact ⟨rfl, B2.out.trans (b3.mono B2.out.size)⟩

end Go.Proofs.Ytaocnnebfnlgiaa
