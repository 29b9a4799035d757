/-
  The walk of ClusterFlags.
-/
import Derived.Test.YtaocnnebfnlgiaaClu2
namespace Go.Proofs.Ytaocnnebfnlgiaa
open Go.RowKit

theorem cf_encS (c : Int) (h : mayB c = true) : encS c (mayB c) = ⟨(Lib.encodeRune c).toArray⟩ := by
  rw [encS_ref]; simp [refEnc, h]
theorem joinL_rep (c : Int) (h : mayB c = true) (i : Nat) : joinL (List.replicate (i + 1) c) = joinL (List.replicate i c) ++ Lib.encodeRune c := by
  have e : List.replicate (i + 1) c = List.replicate i c ++ [c] := List.replicate_succ'
  rw [e]
  unfold joinL
  rw [List.flatMap_append]
  simp [orSpoilt_id c h]
theorem clen_join (l : List Int) (h : ∀ c ∈ l, mayB c = true) : clen ⟨(joinL l).toArray⟩ = countK rs0 (l.map ofI) := by
  unfold clen
  rw [chars_L]
  simp only [List.toList_toArray]
  rw [charsL_join0, map_orSpoilt l h]
theorem flag_class (x : Nat) (hx : x < 26) : ofI (127462 + (x : Int)) = 6 := by
  have H : ∀ x : Fin 26, ofI (127462 + (x.val : Int)) = 6 := by decide +kernel
  exact H ⟨x, hx⟩
theorem flags_count (k : Nat) (hk : k < 21) : countK rs0 (List.replicate k 6) = (k + 1) / 2 ∧ countK rs0 ([0] ++ List.replicate k 6 ++ [0]) = (k + 1) / 2 + 2 := by
  have H : ∀ k : Fin 21, countK rs0 (List.replicate k.val 6) = (k.val + 1) / 2 ∧ countK rs0 ([0] ++ List.replicate k.val 6 ++ [0]) = (k.val + 1) / 2 + 2 := by decide +kernel
  exact H ⟨k, hk⟩

theorem cl_around (n m : Int) (hm : 1 ≤ m) : ∃ k : Nat, aroundI n m = (k : Int) ∧ (k : Int) < m := by
  have h := aroundI_bd n m hm
  exact ⟨(aroundI n m).toNat, by omega, by omega⟩
theorem cf_app (a b : List UInt8) : (⟨a.toArray⟩ : ByteArray) ++ (⟨b.toArray⟩ : ByteArray) = ⟨(a ++ b).toArray⟩ := by
  apply ba_ext
  simp
theorem cf_str (a b : List UInt8) : Value.string ((⟨a.toArray⟩ : ByteArray) ++ (⟨b.toArray⟩ : ByteArray)) = .string ⟨(a ++ b).toArray⟩ := by rw [cf_app]
theorem enc_x : joinL [120] = [120] := by decide +kernel

set_option maxRecDepth 100000 in
set_option maxHeartbeats 2000000 in
theorem clusterFlags_walk (n letter : Int) (w : World) (h0 : -9223372036854775808 ≤ n) (h1 : n ≤ 9223372036854775807) (hl0 : -9223372036854775808 ≤ letter) (hl1 : letter ≤ 9223372036854775807) :
    Calls Try.prog 7 #[.int .i64 n, .int .i64 letter] w fun e w' => e = .returned (.bool true) ∧ Below w.heap.size w w' := by
  obtain ⟨k, hk, hk1⟩ := cl_around n 21 (by omega)
  obtain ⟨x, hx, hx1⟩ := cl_around letter 26 (by omega)
  have hcls := flag_class x (by omega)
  have hcnt := flags_count k (by omega)
  have CN := fun W : World => around_any n 21 W h0 h1 (by omega) (by omega)
  have CX := fun W : World => around_any letter 26 W hl0 hl1 (by omega) (by omega)
  rw [hk] at CN
  rw [hx] at CX
  have hmay : mayB (127462 + (x : Int)) = true := by rw [mayB_iff]; omega
  have hc0 : -9223372036854775808 ≤ 127462 + (x : Int) := by omega
  have hc1 : 127462 + (x : Int) ≤ 9223372036854775807 := by omega
  have CE := fun W : World => uenc_any (127462 + (x : Int)) W hc0 hc1
  rw [cf_encS _ hmay] at CE
  obtain ⟨c, hc⟩ : ∃ c, 127462 + (x : Int) = c := ⟨_, rfl⟩
  have hrep := fun i => joinL_rep (127462 + (x : Int)) hmay i
  have hel := enc_len (127462 + (x : Int))
  rw [hc] at hcls hmay hrep
  have hjl := fun i => joinL_len (List.replicate i c)
  have hcl := clen_join (List.replicate k c) (by intro y hy; rw [List.eq_of_mem_replicate hy]; exact hmay)
  have hcl2 := clen_join ([120] ++ List.replicate k c ++ [120]) (by
    intro y hy
    simp only [List.mem_append, List.mem_singleton] at hy
    rcases hy with (rfl | hy) | rfl
    · decide
    · rw [List.eq_of_mem_replicate hy]; exact hmay
    · decide)
  have hj2 : joinL ([120] ++ List.replicate k c ++ [120]) = [120] ++ joinL (List.replicate k c) ++ [120] := by
    have e : ∀ a b : List Int, joinL (a ++ b) = joinL a ++ joinL b := fun a b => by simp [joinL]
    rw [e, e, enc_x]
  rw [hj2] at hcl2
  have hof : ofI 120 = 0 := by decide +kernel
  rw [List.map_replicate, hcls, hcnt.1] at hcl
  rw [List.map_append, List.map_append, List.map_replicate, hcls] at hcl2
  simp only [List.map_cons, List.map_nil, hof] at hcl2
  rw [hcnt.2] at hcl2
  obtain ⟨m, hm⟩ : ∃ m, (k + 1) / 2 = m := ⟨_, rfl⟩
  rw [hm] at hcl hcl2
  have hq1 : ((m : Int) == ((k : Int) + 1) / 2) = true := by simp; omega
  have hq2 : (((m + 2 : Nat) : Int) == ((k : Int) + 1) / 2 + 2) = true := by simp; omega
  have hq3 : (((m : Int) + 2) == ((k : Int) + 1) / 2 + 2) = true := by simp; omega
  have hjk := hjl k
  simp only [List.length_replicate] at hjl hjk
  have CL1 := fun W : World => clen_any ⟨(joinL (List.replicate k c)).toArray⟩ W (by show (joinL (List.replicate k c)).toArray.size ≤ _; rw [List.size_toArray]; omega)
  have CL2 := fun W : World => clen_any ⟨([120] ++ joinL (List.replicate k c) ++ [120]).toArray⟩ W (by show ([120] ++ joinL (List.replicate k c) ++ [120]).toArray.size ≤ _; rw [List.size_toArray]; simp; omega)
  rw [hcl] at CL1
  rw [hcl2] at CL2
  rw [hc] at CE
  have hsz := fun i => (show (⟨(joinL (List.replicate i c)).toArray⟩ : ByteArray).size = (joinL (List.replicate i c)).length from List.size_toArray)
  have HCE := Lib.hid CE
  have HREP := Lib.hid hrep
  have HJL := Lib.hid hjl
  have HCX := Lib.hid CX
  have HC := Lib.hid hc
  obtain ⟨en, hen⟩ : ∃ en, Lib.encodeRune c = en := ⟨_, rfl⟩
  rw [hc, hen] at hel
  rw [hen] at HCE HREP
  have CL2' := CL2
  rw [← cf_app, ← cf_app] at CL2'
  have HCL1 := Lib.hid CL1
  have HCL2 := Lib.hid CL2'
  clear hcls hcnt hk hx hrep hjl hcl hcl2 hj2 hof hm hmay CE CX CL1 CL2 CL2' hc hen hsz hc0 hc1
  go_enter Try.func7, Try.ntmps7
  go_wp2_with fail
  refine (CN w).mono ?_
  rintro e w' ⟨rfl, rfl⟩
  clear CN
  go_wp2_with fail
  go_loopw [6, 7] (fun s i wr => ∃ j : Nat, i = .int .i64 j ∧ j ≤ k ∧ s = .string ⟨(joinL (List.replicate j c)).toArray⟩ ∧ Aside (Below w.heap.size w wr)) (fun _ i _ => k - (intOf i).toNat)
  case atStart => exact ⟨0, rfl, by omega, rfl, Below.refl _ _⟩
  case round =>
    obtain ⟨j, rfl, hj, rfl, HX⟩ := hrel
    by_cases hlt : j < k
    · have hr := HREP.out j
      have hjj := HJL.out j
      obtain ⟨js, hjs⟩ : ∃ js, joinL (List.replicate j c) = js := ⟨_, rfl⟩
      rw [hjs] at hr hjj ⊢
      have HR := Lib.hid hr
      have hjb : js.length ≤ 100 := by omega
      clear hr hjs hjj
      go_wp2_with fail
      refine (HCX.out wr).mono ?_
      rintro e w' ⟨rfl, rfl⟩
      go_wp2_with fail
      rw [HC.out]
      refine (HCE.out wr).mono ?_
      rintro e w1 ⟨rfl, b1⟩
      have X1 := aside (HX.out.trans (b1.mono HX.out.size))
      clear b1
      go_wp2
      go_roundw
      case rel => exact ⟨j + 1, by go_num, by omega, by rw [HR.out]; exact cf_str _ _, X1⟩
      case measure => simp [intOf]; omega
    · obtain rfl : j = k := by omega
      obtain ⟨js, hjs⟩ : ∃ js, joinL (List.replicate j c) = js := ⟨_, rfl⟩
      rw [hjs] at HCL1 HCL2 hjk ⊢
      clear hjs
      go_wp2_with fail
      refine (HCL1.out wr).mono ?_
      rintro e w1 ⟨rfl, b1⟩
      have X1 := aside (HX.out.trans (b1.mono HX.out.size))
      clear b1
      go_wp2_with fail
      refine (HCL2.out w1).mono ?_
      rintro e w2 ⟨rfl, b2⟩
      have X2 := aside (X1.out.trans (b2.mono X1.out.size))
      clear b2
      go_wp2_with fail
      refine (lives3 _).mono ?_
      rintro e w3 ⟨rfl, b3⟩
      go_wp2
      go_ret
      exact ⟨rfl, X2.out.trans (b3.mono X2.out.size)⟩

end Go.Proofs.Ytaocnnebfnlgiaa
