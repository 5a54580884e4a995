/- The walk of IsStream's law. -/
import Derived.Test.YtmblmlajmfpcgaaStreamB
namespace Go.Proofs.Ytmblmlajmfpcgaa
open Go.RowKit

theorem box_new (w : World) (cs : Array Value) (T : TypeId) : (w.alloc (.cells cs T)).heap[w.heap.size]? = some (.cells cs T (0, 0)) := heap_alloc_new w _
theorem box_cell {w : World} {g : Nat} {cs : Array Value} {T : TypeId} (h : w.heap[g]? = some (.cells cs T (0, 0))) (i : Nat) (v : Value) (hv : cs[i]? = some v) : w.cell? ⟨g, i, none⟩ = some v := by
  rw [cell_of_row w g i cs T (0, 0) h]; exact hv

set_option maxHeartbeats 400000 in
theorem walk_FnExactIsStream (a b : Int) (w : World) (_wa : (Lit.int .i64 a).wf = true) (_wb : (Lit.int .i64 b).wf = true) :
    Calls Try.prog 3 #[.agg #[.int .i64 a, .int .i64 b]] w fun e w' => e = .returned (.bool true) ∧ Below w.heap.size w w' := by
  go_enter Try.func3, Try.ntmps3
  go_wp2_with fail
  have x0 := box_new w #[.int .i64 a, .int .i64 b] 23
  have hB := below_new w (.cells #[.int .i64 a, .int .i64 b] 23)
  refine (toStream_any _ _ _).mono ?_
  rintro e w1 ⟨rfl, b1⟩
  have y0 := (b1.block _ (by simp)).trans x0
  have hB1 := hB.trans (b1.mono hB.size)
  clear x0 hB b1
  go_wp2_with fail
  refine (specIsStream_any _ _ _).mono ?_
  rintro e w2 ⟨rfl, b2⟩
  have hsz := block_lt_of_cell (box_cell y0 0 _ rfl)
  have z0 := (b2.block _ hsz).trans y0
  have hB2 := hB1.trans (b2.mono hB1.size)
  have c0 := box_cell z0 0 _ rfl
  have c1 := box_cell z0 1 _ rfl
  clear y0 hB1 b2
  go_wp2_with fail
  refine (toStream_any _ _ _).mono ?_
  rintro e w3 ⟨rfl, b3⟩
  have hB3 := hB2.trans (b3.mono hB2.size)
  go_wp2_with fail
  refine (implIsStream_any _ _ _).mono ?_
  rintro e w4 ⟨rfl, b4⟩
  have hB4 := hB3.trans (b4.mono hB3.size)
  go_wp2
  go_ret
  exact ⟨rfl, hB4⟩
end Go.Proofs.Ytmblmlajmfpcgaa
