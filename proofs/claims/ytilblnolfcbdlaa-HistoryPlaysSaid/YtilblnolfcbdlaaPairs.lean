/-
  An argument that is a slice of pairs of ints, opened.
-/
import Derived.Test.YtilblnolfcbdlaaMem
import Derived.Deep.Slices
namespace Go.Proofs.Ytilblnolfcbdlaa
open Go.RowKit Go.ChangeShapes Go.WideShapes

/-- A slice of n pairs: f, g tell the two of each. -/
def IsPairs (w : World) (v : Value) (n : Nat) (f g : Nat → Int) : Prop :=
  ∃ A c, v = .slice A n c ∧ n ≤ c ∧ c ≤ 9223372036854775807 ∧ (∀ i, i < n → (-9223372036854775808 ≤ f i ∧ f i ≤ 9223372036854775807) ∧ (-9223372036854775808 ≤ g i ∧ g i ≤ 9223372036854775807)) ∧
    (0 < n → ∃ b off, A = some ⟨b, off, none⟩ ∧ ∀ i, i < n → w.cell? ⟨b, off + i * 2, none⟩ = some (.int .i64 (f i)) ∧ w.cell? ⟨b, off + i * 2 + 1, none⟩ = some (.int .i64 (g i)))

section
variable {H : Type} {enc : TypeId × Value → H} {P : Program} {w : World} {base : Nat} {spare : Nat → Bool} {held : Bool}

theorem arr2_cells {e : TypeId} {n : Nat} {cs : List Value} {xs : List (DataW H × List MemPlace)} (he : P.underlying e = some (.int .i64)) (ce : P.cellsOf e = 1) (hl : cs.length = 2)
    (hp : (List.range 2).mapM (fun i => DataW.trod enc P w base spare held n e ((cs.drop (i * P.cellsOf e)).take (P.cellsOf e))) = some xs) : ∃ a b, cs = [.int .i64 a, .int .i64 b] ∧ (Lit.int .i64 a).wf = true ∧ (Lit.int .i64 b).wf = true := by
  match cs, hl with
  | [u, v], _ =>
    have h0 := mapM_some_get hp 0 0 (by simp)
    have h1 := mapM_some_get hp 1 1 (by simp)
    have hxl := mapM_some_length hp
    simp at hxl
    match xs, hxl with
    | [y0, y1], _ =>
      simp [ce] at h0 h1
      obtain ⟨a, ea, _, wa⟩ := DataW.trod_int he h0
      obtain ⟨b, eb, _, wb⟩ := DataW.trod_int he h1
      injection ea with ea
      injection eb with eb
      subst ea eb
      exact ⟨a, b, rfl, wa, wb⟩

theorem open_arr2 {t e : TypeId} {fuel : Nat} {cs : List Value} {x : DataW H × List MemPlace} (ht : P.underlying t = some (.array 2 e)) (he : P.underlying e = some (.int .i64)) (ce : P.cellsOf e = 1)
    (ct : P.cellsOf t = 2) (h : DataW.trod enc P w base spare held fuel t cs = some x) : ∃ a b, cs = [.int .i64 a, .int .i64 b] ∧ (Lit.int .i64 a).wf = true ∧ (Lit.int .i64 b).wf = true := by
  cases fuel with
  | zero => simp [DataW.trod] at h
  | succ n =>
    unfold DataW.trod at h
    simp only [ht] at h
    split at h
    · rename_i hl
      rw [ct] at hl
      obtain ⟨xs, hp, _⟩ := Option.map_eq_some_iff.1 h
      exact arr2_cells he ce hl hp
    · cases h

theorem isPairs_open {t e d : TypeId} {fuel : Nat} {A : Option Addr} {n c : Nat} {x : DataW H × List MemPlace} (ht : P.underlying t = some (.slice e)) (he : P.underlying e = some (.array 2 d)) (hd : P.underlying d = some (.int .i64))
    (cd : P.cellsOf d = 1) (ce : P.cellsOf e = 2) (h : DataW.trod enc P w base (fun _ => true) held fuel t [.slice A n c] = some x) : ∃ f g, IsPairs w (.slice A n c) n f g := by
  rcases Go.Deep.open_slice ht h with ⟨h0, _⟩ | ⟨a, len, cap, m, k, D, Pl, hcs, hb, hl, hm, hmm, _, hx⟩
  · injection h0 with h0
    injection h0 with e1 e2 e3
    subst e1 e2 e3
    exact ⟨fun _ => 0, fun _ => 0, none, 0, rfl, Nat.le_refl _, by omega, fun i hi => absurd hi (by omega), fun hp => absurd hp (by omega)⟩
  · injection hcs with hcs
    injection hcs with e1 e2 e3
    subst e1 e2 e3
    simp only [if_true] at hmm
    subst hmm
    unfold maxLen at hm
    have each : ∀ i, i < m → ∃ q : Int × Int, (w.cell? (a.add (i * 2)) = some (.int .i64 q.1) ∧ w.cell? (a.add (i * 2 + 1)) = some (.int .i64 q.2)) ∧ (Lit.int .i64 q.1).wf = true ∧ (Lit.int .i64 q.2).wf = true := by
      intro i hi
      obtain ⟨cs', h1, h2⟩ := hx i hi
      obtain ⟨p, q, rfl, wp, wq⟩ := open_arr2 he hd cd ce h2
      rw [ce] at h1
      obtain ⟨_, _, hcell⟩ := World.cells?_some h1
      have c0 := hcell 0 (by omega)
      have c1 := hcell 1 (by omega)
      rw [Go.Deep.add_add] at c0 c1
      exact ⟨(p, q), ⟨by simpa using c0, by simpa using c1⟩, wp, wq⟩
    obtain ⟨q, hq⟩ := Go.Deep.choose_lt each
    have bd : ∀ a : Int, (Lit.int .i64 a).wf = true → -9223372036854775808 ≤ a ∧ a ≤ 9223372036854775807 := by
      intro a h
      simp [Lit.wf, IntKind.min, IntKind.max, IntKind.signed, IntKind.bits] at h
      omega
    refine ⟨fun i => (q i).1, fun i => (q i).2, some a, m, rfl, hl, hm, fun i hi => ⟨bd _ (hq i (by omega)).2.1, bd _ (hq i (by omega)).2.2⟩, fun hp => ?_⟩
    obtain ⟨ab, ao, spot⟩ := a
    have hspot : spot = none := by simpa [Addr.add] using World.cell?_spot (hq 0 (by omega)).1.1
    subst hspot
    refine ⟨ab, ao, rfl, fun i hi => ?_⟩
    have := (hq i (by omega)).1
    have ha : ∀ j, (⟨ab, ao, none⟩ : Addr).add j = ⟨ab, ao + j, none⟩ := fun j => by unfold Addr.add; split <;> simp_all
    rw [ha, ha] at this
    exact ⟨this.1, by rw [Nat.add_assoc]; exact this.2⟩
end

end Go.Proofs.Ytilblnolfcbdlaa
