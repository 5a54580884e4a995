/- Blocks kept over calls in a region that draws its order. -/
import Derived.Test.YtcjmapdeopffcaaZa
import Derived.Test.YtcjmapdeopffcaaYw
namespace Go.Proofs.Ytcjmapdeopffcaa
open Go.RowKit

theorem keepN {a b : World} {g : Nat} {o o2 : Obj} (h : a.heap[g]? = some o) (hb : Below (a.alloc o2).heap.size (a.alloc o2) b) : b.heap[g]? = some o :=
  box_below (box_below h (below_new a o2)) hb
theorem keepB {w a b : World} {B : Nat} (h : Below B w a) (hB : B ≤ w.heap.size) (hb : Below a.heap.size a b) : Below B w b := h.trans (hb.mono (Nat.le_trans hB h.size))
theorem keepBN {w a b : World} {B : Nat} {o : Obj} (h : Below B w a) (hB : B ≤ w.heap.size) (hb : Below (a.alloc o).heap.size (a.alloc o) b) : Below B w b :=
  keepB (keepB h hB (below_new a o)) hB hb
theorem newAt {w a b : World} {B : Nat} {cs : Array Value} {T : TypeId} (h : Below B w a) (hB : B ≤ w.heap.size) (hb : Below (a.alloc (.cells cs T)).heap.size (a.alloc (.cells cs T)) b) : b.heap[a.heap.size]? = some (.cells cs T (0, 0)) ∧ B ≤ a.heap.size :=
  ⟨box_below (box_new a cs T) hb, Nat.le_trans hB h.size⟩
theorem cell_two {w : World} {g a i : Nat} {u v v' : Value} (h : w.cell? ⟨a, i, none⟩ = some v') (hne : a ≠ g) : ((w.setCell ⟨g, 0, none⟩ u).setCell ⟨g, 1, none⟩ v).cell? ⟨a, i, none⟩ = some v' := by
  rw [World.cell?_of_block (w := w) (w' := (w.setCell ⟨g, 0, none⟩ u).setCell ⟨g, 1, none⟩ v) (a := ⟨a, i, none⟩) ?_]
  · exact h
  · rw [Below.heap_setCell _ ⟨g, 1, none⟩ v a hne, Below.heap_setCell _ ⟨g, 0, none⟩ u a hne]
theorem cell_new {w : World} {a i : Nat} {o : Obj} {v' : Value} (h : w.cell? ⟨a, i, none⟩ = some v') : (w.alloc o).cell? ⟨a, i, none⟩ = some v' :=
  ((below_new w o).cell (p := ⟨a, i, none⟩) (block_lt_of_cell h)).trans h
end Go.Proofs.Ytcjmapdeopffcaa
