/-
  append of a whole row of one's own onto another one: elements of one cell.
-/
import Derived.Test.YtaocnnebfnlgiaaOwn
namespace Go.Proofs.Ytaocnnebfnlgiaa
open Go.RowKit

theorem run_append_row1 {P : Program} (w : World) (t ty e : TypeId) (i : TypeInfo) (z : Value) (bytes : Nat) (ht : P.underlying t = some (.slice e)) (hi : P.info? e = some i) (hz : i.zero = some z) (hs : i.size = 1) (hby : i.bytes = bytes) (hzs : z.cells.size = 1)
    (base B2 : Nat) (v : Value) (n : Nat) (xs : List Value) (hown : w.ownsRow base e 1 v n xs) (u : Value) (m : Nat) (ys : List Value) (hm : ys.length = m) (hu : w.ownsRow B2 e 1 u m ys) (h1 : ∀ y ∈ ys, y.oneCell' = true) (hlen : (n + m) ≤ 1000000) (hbb : bytes ≤ 100) (hbase : base ≤ w.heap.size) :
    ∃ v' w', (Builtin.append_ #[t, t] ty #[v, u]).run P w = .ok v' w' ∧ w'.ownsRow base e 1 v' (n + m) (xs ++ ys) ∧ w.grownBy w' v.ownBlock := by
  rcases hu.2 with ⟨rfl, h0⟩ | ⟨g, cap, cur, rfl, _⟩
  · have : ys = [] := List.eq_nil_of_length_eq_zero (by omega)
    subst this
    subst h0
    exact ⟨v, w, run_append_owned_none w base t ty e i 1 ht hi v n xs hown, by simpa using hown, World.grownBy.refl w _⟩
  · have hb : (n + m) * bytes ≤ 140737488355328 := by
      have : (n + m) * bytes ≤ 1000000 * 100 := Nat.mul_le_mul hlen hbb
      omega
    obtain ⟨v', w', k1, k2, k3, _⟩ := run_append_own (P := P) w base t ty e i z 1 bytes ht hi hz hs hby hzs (by decide) v n xs hown ⟨g, 0, none⟩ m cap ys (by omega) (hu.cells rfl) h1 (by unfold maxLen; omega) hb hbase
    exact ⟨v', w', k1, k2, k3⟩

theorem wpList_append_row1 {P : Program} (w : World) {ops : Array Oper} {rest : List Oper} {o : Oper} {a : Act} {Q : Exit → Act → World → Prop} (hgd : o.guard = none) (s x : Operand) (t : TypeId)
    (ho : o.op = .call { callee := .builtin .append, args := #[s, x], argTypes := #[t, t] })
    (e : TypeId) (i : TypeInfo) (z : Value) (bytes : Nat) (ht : P.underlying t = some (.slice e)) (hi : P.info? e = some i) (hz : i.zero = some z) (hs : i.size = 1) (hby : i.bytes = bytes) (hzs : z.cells.size = 1)
    (base B2 : Nat) (v : Value) (n : Nat) (xs : List Value) (hv : a.eval s = v) (hown : w.ownsRow base e 1 v n xs) (u : Value) (m : Nat) (ys : List Value) (hue : a.eval x = u) (hm : ys.length = m) (hu : w.ownsRow B2 e 1 u m ys) (h1 : ∀ y ∈ ys, y.oneCell' = true) (hlen : (n + m) ≤ 1000000) (hbb : bytes ≤ 100) (hbase : base ≤ w.heap.size)
    (h : ∀ v' w', w'.ownsRow base e 1 v' (n + m) (xs ++ ys) → w.grownBy w' v.ownBlock → wpList P ops Q rest (a.put o.dst v') w') : wpList P ops Q (o :: rest) a w := by
  refine wpList_plain hgd fun K hK => ?_
  obtain ⟨v', w', k1, k2, k3⟩ := run_append_row1 (P := P) w t o.type e i z bytes ht hi hz hs hby hzs base B2 v n xs hown u m ys hm hu h1 hlen hbb hbase
  unfold Oper.wp execOp
  simp only [ho, resolve, invoke, builtin, Sem.run_bind, Sem.run_pure, Result.andThen_ok, List.map_toArray, List.map_cons, List.map_nil, hv, hue, k1]
  exact hK _ _ (h v' w' k2 k3)

end Go.Proofs.Ytaocnnebfnlgiaa
