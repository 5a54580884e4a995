/- Blocks that a call lays for itself. -/
import Derived.Test.YtgeilnkglbcmeaaFrame
import Derived.Test.YtgeilnkglbcmeaaAppend
namespace Go.Proofs.Ytgeilnkglbcmeaa
open Go.RowKit

theorem box_new (w : World) (cs : Array Value) (T : TypeId) : (w.alloc (.cells cs T)).heap[w.heap.size]? = some (.cells cs T (0, 0)) := heap_alloc_new w _
theorem box_cell {w : World} {g : Nat} {cs : Array Value} {T : TypeId} (h : w.heap[g]? = some (.cells cs T (0, 0))) (i : Nat) (v : Value) (hv : cs[i]? = some v) : w.cell? ⟨g, i, none⟩ = some v := by
  rw [cell_of_row w g i cs T (0, 0) h]; exact hv
theorem box_free {w : World} {g : Nat} {cs : Array Value} {T : TypeId} (h : w.heap[g]? = some (.cells cs T (0, 0))) (i : Nat) : w.frozen? ⟨g, i, none⟩ = false := by
  simp [World.frozen?, h]
theorem box_set {w : World} {g : Nat} {cs : Array Value} {T : TypeId} (h : w.heap[g]? = some (.cells cs T (0, 0))) (i : Nat) (v : Value) : (w.setCell ⟨g, i, none⟩ v).heap[g]? = some (.cells (cs.setIfInBounds i v) T (0, 0)) := by
  simp [World.setCell, Array.getElem?_modify, h]
theorem box_below {w w' : World} {g : Nat} {o : Obj} (h : w.heap[g]? = some o) (hb : Below w.heap.size w w') : w'.heap[g]? = some o := (hb.block g (lt_of_block h)).trans h
theorem store_two {w : World} {g : Nat} {T : TypeId} {p q : Value} (h : w.heap[g]? = some (.cells #[p, q] T (0, 0))) (u v : Value) : ((w.setCell ⟨g, 0, none⟩ u).setCell ⟨g, 1, none⟩ v).heap[g]? = some (.cells #[u, v] T (0, 0)) :=
  box_set (box_set h 0 u) 1 v
theorem below_two {w0 w : World} {B g : Nat} {u v : Value} (h : Below B w0 w) (hg : B ≤ g) : Below B w0 ((w.setCell ⟨g, 0, none⟩ u).setCell ⟨g, 1, none⟩ v) := (h.setCell (by exact hg) _).setCell (by exact hg) _

/-- Two boxes at a function's start. -/
theorem box_two (w : World) (cs ds : Array Value) (T U : TypeId) :
    Below w.heap.size w ((w.alloc (.cells cs T)).alloc (.cells ds U)) ∧ ((w.alloc (.cells cs T)).alloc (.cells ds U)).heap[w.heap.size]? = some (.cells cs T (0, 0)) ∧
    ((w.alloc (.cells cs T)).alloc (.cells ds U)).heap[w.heap.size + 1]? = some (.cells ds U (0, 0)) := by
  refine ⟨((Below.refl _ _).alloc (Nat.le_refl _) _).alloc (by simp) _, (Below.heap_alloc _ _ _ (by simp)).trans (heap_alloc_new w _), ?_⟩
  have h := heap_alloc_new (w.alloc (.cells cs T)) (.cells ds U)
  simpa using h
theorem box_chg {w w' : World} {lo hi g : Nat} {o : Obj} (h : w.heap[g]? = some o) (hc : Chg lo hi w w') (hg : g < lo ∨ hi ≤ g) : w'.heap[g]? = some o := (hc.block g (lt_of_block h) hg).trans h
end Go.Proofs.Ytgeilnkglbcmeaa
