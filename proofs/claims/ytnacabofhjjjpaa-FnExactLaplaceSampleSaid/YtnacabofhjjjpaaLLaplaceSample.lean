/- The walk of the law FnExactLaplaceSample, printed by lawgen.py off the law's own text. -/
import Derived.Test.YtnacabofhjjjpaaLaplaceSample
namespace Go.Proofs.Ytnacabofhjjjpaa
open Go.RowKit

set_option maxRecDepth 100000 in
set_option maxHeartbeats 4000000 in
theorem walk_FnExactLaplaceSample (a0 j0 : Int) (a1 : Int) (w : World) (_w0 : (Lit.int .i64 a0).wf = true) (_v0 : (Lit.int .i64 j0).wf = true) (_w1 : (Lit.int .i64 a1).wf = true) :
    Calls Try.prog 11 #[.agg #[.int .i64 a0, .int .i64 j0], .int .i64 a1] w fun e w' => e = .returned (.bool true) ∧ Below w.heap.size w w' := by
  go_enter Try.func11, Try.ntmps11
  have B0 : Below w.heap.size w w := Below.refl _ _
  go_wp2_with fail
  have b1 : Below w.heap.size w (w.alloc (.cells #[.int .i64 a0, .int .i64 j0] 23)) := below_new _ _
  have x0 : (w.alloc (.cells #[.int .i64 a0, .int .i64 j0] 23)).heap[w.heap.size]? = some (.cells #[.int .i64 a0, .int .i64 j0] 23 (0, 0)) := box_new _ _ _
  generalize w.alloc (.cells #[.int .i64 a0, .int .i64 j0] 23) = w1 at b1 x0 ⊢
  have B1 := B0.trans (b1.mono B0.size)
  have S1 := b1.size
  clear b1
  have Z0 := Lib.hid B0
  clear B0 Z0
  have cx0 := box_cell x0 0 _ rfl
  have dx0 := box_cell x0 1 _ rfl
  have lx0 := lt_of_block x0
  have mx0 := lt_of_block x0
  refine (toStream_any _ _ _).mono ?_
  rintro e w2 ⟨rfl, b2⟩
  have B2 := B1.trans (b2.mono B1.size)
  have S2 := b2.size
  replace x0 := (b2.block _ (lt_of_block x0)).trans x0
  replace lx0 := lt_of_block x0
  clear cx0 dx0
  have cx0 := box_cell x0 0 _ rfl
  have dx0 := box_cell x0 1 _ rfl
  clear b2
  have Z1 := Lib.hid B1
  clear B1 Z1
  go_wp2_with fail
  refine (specLaplaceSample_law _ _ _ _ ).mono ?_
  rintro e w3 ⟨rfl, b3⟩
  have B3 := B2.trans (b3.mono B2.size)
  have S3 := b3.size
  replace x0 := (b3.block _ (lt_of_block x0)).trans x0
  replace lx0 := lt_of_block x0
  clear cx0 dx0
  have cx0 := box_cell x0 0 _ rfl
  have dx0 := box_cell x0 1 _ rfl
  clear b3
  have Z2 := Lib.hid B2
  clear B2 Z2
  go_wp2_with fail
  have b4 : Below w3.heap.size w3 (w3.alloc (.cells #[.int .i64 (oS a0 (lapR a0 j0 a1)), .int .i64 (oA (lapR a0 j0 a1))] 25)) := below_new _ _
  have xw1 : (w3.alloc (.cells #[.int .i64 (oS a0 (lapR a0 j0 a1)), .int .i64 (oA (lapR a0 j0 a1))] 25)).heap[w3.heap.size]? = some (.cells #[.int .i64 (oS a0 (lapR a0 j0 a1)), .int .i64 (oA (lapR a0 j0 a1))] 25 (0, 0)) := box_new _ _ _
  generalize w3.alloc (.cells #[.int .i64 (oS a0 (lapR a0 j0 a1)), .int .i64 (oA (lapR a0 j0 a1))] 25) = w4 at b4 xw1 ⊢
  have B4 := B3.trans (b4.mono B3.size)
  have S4 := b4.size
  replace x0 := (b4.block _ (lt_of_block x0)).trans x0
  replace lx0 := lt_of_block x0
  clear cx0 dx0
  have cx0 := box_cell x0 0 _ rfl
  have dx0 := box_cell x0 1 _ rfl
  clear b4
  have Z3 := Lib.hid B3
  clear B3 Z3
  have cxw1 := box_cell xw1 0 _ rfl
  have dxw1 := box_cell xw1 1 _ rfl
  have lxw1 := lt_of_block xw1
  have mxw1 := lt_of_block xw1
  refine (toStream_any _ _ _).mono ?_
  rintro e w5 ⟨rfl, b5⟩
  have B5 := B4.trans (b5.mono B4.size)
  have S5 := b5.size
  replace x0 := (b5.block _ (lt_of_block x0)).trans x0
  replace lx0 := lt_of_block x0
  clear cx0 dx0
  have cx0 := box_cell x0 0 _ rfl
  have dx0 := box_cell x0 1 _ rfl
  replace xw1 := (b5.block _ (lt_of_block xw1)).trans xw1
  replace lxw1 := lt_of_block xw1
  clear cxw1 dxw1
  have cxw1 := box_cell xw1 0 _ rfl
  have dxw1 := box_cell xw1 1 _ rfl
  clear b5
  have Z4 := Lib.hid B4
  clear B4 Z4
  go_wp2_with fail
  refine (implLaplaceSample_law _ _ _ _ ).mono ?_
  rintro e w6 ⟨rfl, b6⟩
  have B6 := B5.trans (b6.mono B5.size)
  have S6 := b6.size
  replace x0 := (b6.block _ (lt_of_block x0)).trans x0
  replace lx0 := lt_of_block x0
  clear cx0 dx0
  have cx0 := box_cell x0 0 _ rfl
  have dx0 := box_cell x0 1 _ rfl
  replace xw1 := (b6.block _ (lt_of_block xw1)).trans xw1
  replace lxw1 := lt_of_block xw1
  clear cxw1 dxw1
  have cxw1 := box_cell xw1 0 _ rfl
  have dxw1 := box_cell xw1 1 _ rfl
  clear b6
  have Z5 := Lib.hid B5
  clear B5 Z5
  go_wp2_with fail
  have b7 : Below w6.heap.size w6 (w6.alloc (.cells #[.int .i64 (oS a0 (lapR a0 j0 a1)), .int .i64 (oA (lapR a0 j0 a1))] 25)) := below_new _ _
  have xg1 : (w6.alloc (.cells #[.int .i64 (oS a0 (lapR a0 j0 a1)), .int .i64 (oA (lapR a0 j0 a1))] 25)).heap[w6.heap.size]? = some (.cells #[.int .i64 (oS a0 (lapR a0 j0 a1)), .int .i64 (oA (lapR a0 j0 a1))] 25 (0, 0)) := box_new _ _ _
  generalize w6.alloc (.cells #[.int .i64 (oS a0 (lapR a0 j0 a1)), .int .i64 (oA (lapR a0 j0 a1))] 25) = w7 at b7 xg1 ⊢
  have B7 := B6.trans (b7.mono B6.size)
  have S7 := b7.size
  replace x0 := (b7.block _ (lt_of_block x0)).trans x0
  replace lx0 := lt_of_block x0
  clear cx0 dx0
  have cx0 := box_cell x0 0 _ rfl
  have dx0 := box_cell x0 1 _ rfl
  replace xw1 := (b7.block _ (lt_of_block xw1)).trans xw1
  replace lxw1 := lt_of_block xw1
  clear cxw1 dxw1
  have cxw1 := box_cell xw1 0 _ rfl
  have dxw1 := box_cell xw1 1 _ rfl
  clear b7
  have Z6 := Lib.hid B6
  clear B6 Z6
  have cxg1 := box_cell xg1 0 _ rfl
  have dxg1 := box_cell xg1 1 _ rfl
  have lxg1 := lt_of_block xg1
  have mxg1 := lt_of_block xg1
  refine (eqStream_true _ _ _).mono ?_
  rintro e w8 ⟨rfl, b8⟩
  have B8 := B7.trans (b8.mono B7.size)
  have S8 := b8.size
  replace x0 := (b8.block _ (lt_of_block x0)).trans x0
  replace lx0 := lt_of_block x0
  clear cx0 dx0
  have cx0 := box_cell x0 0 _ rfl
  have dx0 := box_cell x0 1 _ rfl
  replace xw1 := (b8.block _ (lt_of_block xw1)).trans xw1
  replace lxw1 := lt_of_block xw1
  clear cxw1 dxw1
  have cxw1 := box_cell xw1 0 _ rfl
  have dxw1 := box_cell xw1 1 _ rfl
  replace xg1 := (b8.block _ (lt_of_block xg1)).trans xg1
  replace lxg1 := lt_of_block xg1
  clear cxg1 dxg1
  have cxg1 := box_cell xg1 0 _ rfl
  have dxg1 := box_cell xg1 1 _ rfl
  clear b8
  have Z7 := Lib.hid B7
  clear B7 Z7
  go_wp2
  go_ret
  exact ⟨rfl, B8⟩
end Go.Proofs.Ytnacabofhjjjpaa
