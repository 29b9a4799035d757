/-
  The contract of the reference's table.
-/
import Derived.Test.YtaocnnebfnlgiaaDoorMem
import Derived.Test.YtaocnnebfnlgiaaDoorRows
import Derived.Test.YtaocnnebfnlgiaaDoorClassP
import Derived.Great.BuildSlice
namespace Go.Proofs.YtaocnnebfnlgiaaDoor
open Go.RowKit

def tcells (t : List (Int × Int × Int)) : List Value := t.flatMap fun r => [.int .i64 r.1, .int .i64 r.2.1, .int .i64 r.2.2]
theorem tcells_get : ∀ (t : List (Int × Int × Int)) (j : Nat), j < t.length → (tcells t)[j * 3]? = some (.int .i64 (t.getD j (0, 0, 0)).1) ∧ (tcells t)[j * 3 + 1]? = some (.int .i64 (t.getD j (0, 0, 0)).2.1) ∧ (tcells t)[j * 3 + 2]? = some (.int .i64 (t.getD j (0, 0, 0)).2.2)
  | [], j, h => by simp at h
  | r :: rs, 0, _ => by simp [tcells]
  | r :: rs, j + 1, h => by
    have ih := tcells_get rs j (by simpa using h)
    have e1 : (j + 1) * 3 = j * 3 + 1 + 1 + 1 := by omega
    rw [e1]
    simpa [tcells] using ih

/-- The table in memory. -/
def IsTbl (w : World) (v : Value) : Prop := ∃ b, v = .slice (some ⟨b, 0, none⟩) 66 66 ∧ b < w.heap.size ∧ ∀ j u, (tcells tbl)[j]? = some u → w.cell? ⟨b, j, none⟩ = some u

theorem isTbl_new (w : World) (cs : Array Value) (t : TypeId) (h : cs.toList = tcells tbl) : IsTbl (w.alloc (.cells cs t)) (.slice (some ⟨w.heap.size, 0, none⟩) 66 66) := by
  refine ⟨w.heap.size, rfl, by simp, fun j u hj => ?_⟩
  rw [cell_of_row _ w.heap.size j cs t (0, 0) (heap_alloc_new w _), ← hj, ← h]
  simp

theorem info_three : (Tryd.prog.info? 64).map (fun i => (i.zero, i.size, i.bytes)) = some (some (.agg #[.int .i64 0, .int .i64 0, .int .i64 0]), 3, 24) := by kernel_rfl

set_option maxRecDepth 100000 in
set_option maxHeartbeats 4000000 in
theorem table_any (w : World) : Calls Tryd.prog 46 #[] w fun e w' => ∃ v, e = .returned v ∧ IsTbl w' v ∧ Below w.heap.size w w' := by
  obtain ⟨ie, hie, hz, hs, _⟩ := info_parts info_three
  have HS := Lib.hid hs
  clear hs
  go_enter Tryd.func46, Tryd.ntmps46
  go_wp2
  refine wp_buildSlice 62 64 66 _ rfl (tcells tbl).toArray ie (.agg #[.int .i64 0, .int .i64 0, .int .i64 0]) Tryd.underlying62 hie hz (by rw [HS.out]; decide) (by rw [HS.out]; decide) (by rw [HS.out]; kernel_rfl) ?_
  obtain ⟨cs, hcs⟩ : ∃ cs, (tcells tbl).toArray = cs := ⟨_, rfl⟩
  have HCS : Hid (cs.toList = tcells tbl) := by rw [← hcs]; exact rfl
  rw [hcs]
  clear hcs
  go_wp2
  go_ret
  exact ⟨_, rfl, isTbl_new w _ _ HCS.out, (Below.refl _ _).alloc (Nat.le_refl _) _⟩

end Go.Proofs.YtaocnnebfnlgiaaDoor
