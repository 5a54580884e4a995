/- The walk of the law FnExactBitsUsed, printed by lawgen.py off the law's own text. -/
import Derived.Test.YtfkdmddfadkjoaaBitsUsed
namespace Go.Proofs.Ytfkdmddfadkjoaa
open Go.RowKit

set_option maxRecDepth 100000 in
set_option maxHeartbeats 4000000 in
theorem walk_FnExactBitsUsed (a0 j0 : Int) (a1 : Int) (a2 : Int) (w : World) (_w0 : (Lit.int .i64 a0).wf = true) (_v0 : (Lit.int .i64 j0).wf = true) (_w1 : (Lit.int .i64 a1).wf = true) (_w2 : (Lit.int .i64 a2).wf = true) :
    Calls Try.prog 4 #[.agg #[.int .i64 a0, .int .i64 j0], .int .i64 a1, .int .i64 a2] w fun e w' => e = .returned (.bool true) ∧ Below w.heap.size w w' := by
  go_enter Try.func4, Try.ntmps4
  have B0 : Below w.heap.size w w := Below.refl _ _
  go_wp2_with fail
  have b1 : Below w.heap.size w (w.alloc (.cells #[.int .i64 a0, .int .i64 j0] 24)) := below_new _ _
  have x0 : (w.alloc (.cells #[.int .i64 a0, .int .i64 j0] 24)).heap[w.heap.size]? = some (.cells #[.int .i64 a0, .int .i64 j0] 24 (0, 0)) := box_new _ _ _
  generalize w.alloc (.cells #[.int .i64 a0, .int .i64 j0] 24) = w1 at b1 x0 ⊢
  have B1 := B0.trans (b1.mono B0.size)
  have S1 := b1.size
  clear b1
  have Z0 := Lib.hid B0
  clear B0 Z0
  have cx0 := box_cell x0 0 _ rfl
  have dx0 := box_cell x0 1 _ rfl
  have lx0 := lt_of_block x0
  have mx0 := lt_of_block x0
  refine (toFrac_any _ _ _).mono ?_
  rintro e w2 ⟨rfl, b2⟩
  have B2 := B1.trans (b2.mono B1.size)
  have S2 := b2.size
  replace x0 := (b2.block _ (lt_of_block x0)).trans x0
  replace lx0 := lt_of_block x0
  clear cx0 dx0
  have cx0 := box_cell x0 0 _ rfl
  have dx0 := box_cell x0 1 _ rfl
  clear b2
  have Z1 := Lib.hid B1
  clear B1 Z1
  go_wp2_with fail
  refine (specBitsUsed_law _ _ _ _ _ ).mono ?_
  rintro e w3 ⟨rfl, b3⟩
  have B3 := B2.trans (b3.mono B2.size)
  have S3 := b3.size
  replace x0 := (b3.block _ (lt_of_block x0)).trans x0
  replace lx0 := lt_of_block x0
  clear cx0 dx0
  have cx0 := box_cell x0 0 _ rfl
  have dx0 := box_cell x0 1 _ rfl
  clear b3
  have Z2 := Lib.hid B2
  clear B2 Z2
  go_wp2_with fail
  refine (toFrac_any _ _ _).mono ?_
  rintro e w4 ⟨rfl, b4⟩
  have B4 := B3.trans (b4.mono B3.size)
  have S4 := b4.size
  replace x0 := (b4.block _ (lt_of_block x0)).trans x0
  replace lx0 := lt_of_block x0
  clear cx0 dx0
  have cx0 := box_cell x0 0 _ rfl
  have dx0 := box_cell x0 1 _ rfl
  clear b4
  have Z3 := Lib.hid B3
  clear B3 Z3
  go_wp2_with fail
  refine (implBitsUsed_law _ _ _ _ _ ).mono ?_
  rintro e w5 ⟨rfl, b5⟩
  have B5 := B4.trans (b5.mono B4.size)
  have S5 := b5.size
  replace x0 := (b5.block _ (lt_of_block x0)).trans x0
  replace lx0 := lt_of_block x0
  clear cx0 dx0
  have cx0 := box_cell x0 0 _ rfl
  have dx0 := box_cell x0 1 _ rfl
  clear b5
  have Z4 := Lib.hid B4
  clear B4 Z4
  go_wp2
  go_ret
  exact ⟨rfl, B5⟩
end Go.Proofs.Ytfkdmddfadkjoaa
