/- The walk of the law FnExactPickOf, printed by lawgen.py off the law's own text. -/
import Derived.Test.YtnacabofhjjjpaaPick
namespace Go.Proofs.Ytnacabofhjjjpaa
open Go.RowKit

set_option maxRecDepth 100000 in
set_option maxHeartbeats 4000000 in
theorem walk_FnExactPickOf (a0 b0 : Int) (A1 : Option Addr) (n1 c1 : Nat) (z1 : List Int) (w : World) (_w0 : (Lit.int .i64 a0).wf = true) (_v0 : (Lit.int .i64 b0).wf = true) (r1 : Ints w A1 n1 z1) (m1 : n1 ≤ maxLen) (_f1 : ∀ x ∈ z1, (Lit.int .i64 x).wf = true) :
    Calls Try.prog 6 #[.agg #[.int .i64 a0, .int .i64 b0], .slice A1 n1 c1] w fun e w' => e = .returned (.bool true) ∧ Below w.heap.size w w' := by
  unfold maxLen at m1
  rcases Nat.lt_or_ge 1048576 n1 with g1 | g1
  · go_enter Try.func6, Try.ntmps6
    go_wp2
    go_ret
    exact ⟨rfl, ((Below.refl w.heap.size w).alloc (by simp; try omega) (.cells #[.int .i64 a0, .int .i64 b0] 23))⟩
  go_enter Try.func6, Try.ntmps6
  have B0 : Below w.heap.size w w := Below.refl _ _
  go_wp2_with fail
  have b1 : Below w.heap.size w (w.alloc (.cells #[.int .i64 a0, .int .i64 b0] 23)) := below_new _ _
  have x0 : (w.alloc (.cells #[.int .i64 a0, .int .i64 b0] 23)).heap[w.heap.size]? = some (.cells #[.int .i64 a0, .int .i64 b0] 23 (0, 0)) := box_new _ _ _
  generalize w.alloc (.cells #[.int .i64 a0, .int .i64 b0] 23) = w1 at b1 x0 ⊢
  have B1 := B0.trans (b1.mono B0.size)
  have S1 := b1.size
  clear b1
  have Z0 := Lib.hid B0
  clear B0 Z0
  have cx0 := box_cell x0 0 _ rfl
  have dx0 := box_cell x0 1 _ rfl
  have lx0 := lt_of_block x0
  have mx0 := lt_of_block x0
  refine (toStream_any _ _ _).mono ?_
  rintro e w2 ⟨rfl, b2⟩
  have B2 := B1.trans (b2.mono B1.size)
  have S2 := b2.size
  replace x0 := (b2.block _ (lt_of_block x0)).trans x0
  replace lx0 := lt_of_block x0
  clear cx0 dx0
  have cx0 := box_cell x0 0 _ rfl
  have dx0 := box_cell x0 1 _ rfl
  clear b2
  have Z1 := Lib.hid B1
  clear B1 Z1
  go_wp2_with fail
  refine (toIntS_law _ _ _ _ _ (r1.below B2) (by omega)).mono ?_
  rintro e w3 ⟨A_t1, c_t1, rfl, o_t1, b3⟩
  have B3 := B2.trans (b3.mono B2.size)
  have S3 := b3.size
  replace x0 := (b3.block _ (lt_of_block x0)).trans x0
  replace lx0 := lt_of_block x0
  clear cx0 dx0
  have cx0 := box_cell x0 0 _ rfl
  have dx0 := box_cell x0 1 _ rfl
  clear b3
  have Z2 := Lib.hid B2
  clear B2 Z2
  go_wp2_with fail
  refine (specPickOf_law _ _ _ _ _ _ _ o_t1.ints o_t1.small).mono ?_
  rintro e w4 ⟨rfl, b4⟩
  have B4 := B3.trans (b4.mono B3.size)
  have S4 := b4.size
  replace x0 := (b4.block _ (lt_of_block x0)).trans x0
  replace lx0 := lt_of_block x0
  clear cx0 dx0
  have cx0 := box_cell x0 0 _ rfl
  have dx0 := box_cell x0 1 _ rfl
  replace o_t1 := o_t1.below b4
  clear b4
  have Z3 := Lib.hid B3
  clear B3 Z3
  clear o_t1
  go_wp2_with fail
  have b5 : Below w4.heap.size w4 (w4.alloc (.cells #[.int .i64 (oS a0 (pickR a0 b0 z1)), .int .i64 (oA (pickR a0 b0 z1))] 25)) := below_new _ _
  have xw1 : (w4.alloc (.cells #[.int .i64 (oS a0 (pickR a0 b0 z1)), .int .i64 (oA (pickR a0 b0 z1))] 25)).heap[w4.heap.size]? = some (.cells #[.int .i64 (oS a0 (pickR a0 b0 z1)), .int .i64 (oA (pickR a0 b0 z1))] 25 (0, 0)) := box_new _ _ _
  generalize w4.alloc (.cells #[.int .i64 (oS a0 (pickR a0 b0 z1)), .int .i64 (oA (pickR a0 b0 z1))] 25) = w5 at b5 xw1 ⊢
  have B5 := B4.trans (b5.mono B4.size)
  have S5 := b5.size
  replace x0 := (b5.block _ (lt_of_block x0)).trans x0
  replace lx0 := lt_of_block x0
  clear cx0 dx0
  have cx0 := box_cell x0 0 _ rfl
  have dx0 := box_cell x0 1 _ rfl
  clear b5
  have Z4 := Lib.hid B4
  clear B4 Z4
  have cxw1 := box_cell xw1 0 _ rfl
  have dxw1 := box_cell xw1 1 _ rfl
  have lxw1 := lt_of_block xw1
  have mxw1 := lt_of_block xw1
  refine (toIntS_law _ _ _ _ _ (r1.below B5) (by omega)).mono ?_
  rintro e w6 ⟨A_t2, c_t2, rfl, o_t2, b6⟩
  have B6 := B5.trans (b6.mono B5.size)
  have S6 := b6.size
  replace x0 := (b6.block _ (lt_of_block x0)).trans x0
  replace lx0 := lt_of_block x0
  clear cx0 dx0
  have cx0 := box_cell x0 0 _ rfl
  have dx0 := box_cell x0 1 _ rfl
  replace xw1 := (b6.block _ (lt_of_block xw1)).trans xw1
  replace lxw1 := lt_of_block xw1
  clear cxw1 dxw1
  have cxw1 := box_cell xw1 0 _ rfl
  have dxw1 := box_cell xw1 1 _ rfl
  clear b6
  have Z5 := Lib.hid B5
  clear B5 Z5
  go_wp2_with fail
  refine (toStream_any _ _ _).mono ?_
  rintro e w7 ⟨rfl, b7⟩
  have B7 := B6.trans (b7.mono B6.size)
  have S7 := b7.size
  replace x0 := (b7.block _ (lt_of_block x0)).trans x0
  replace lx0 := lt_of_block x0
  clear cx0 dx0
  have cx0 := box_cell x0 0 _ rfl
  have dx0 := box_cell x0 1 _ rfl
  replace xw1 := (b7.block _ (lt_of_block xw1)).trans xw1
  replace lxw1 := lt_of_block xw1
  clear cxw1 dxw1
  have cxw1 := box_cell xw1 0 _ rfl
  have dxw1 := box_cell xw1 1 _ rfl
  replace o_t2 := o_t2.below b7
  clear b7
  have Z6 := Lib.hid B6
  clear B6 Z6
  go_wp2_with fail
  refine (implPickOf_law _ _ _ _ _ _ _ o_t2.ints o_t2.small).mono ?_
  rintro e w8 ⟨rfl, b8⟩
  have B8 := B7.trans (b8.mono B7.size)
  have S8 := b8.size
  replace x0 := (b8.block _ (lt_of_block x0)).trans x0
  replace lx0 := lt_of_block x0
  clear cx0 dx0
  have cx0 := box_cell x0 0 _ rfl
  have dx0 := box_cell x0 1 _ rfl
  replace xw1 := (b8.block _ (lt_of_block xw1)).trans xw1
  replace lxw1 := lt_of_block xw1
  clear cxw1 dxw1
  have cxw1 := box_cell xw1 0 _ rfl
  have dxw1 := box_cell xw1 1 _ rfl
  replace o_t2 := o_t2.below b8
  clear b8
  have Z7 := Lib.hid B7
  clear B7 Z7
  go_wp2_with fail
  have b9 : Below w8.heap.size w8 (w8.alloc (.cells #[.int .i64 (oS a0 (pickR a0 b0 z1)), .int .i64 (oA (pickR a0 b0 z1))] 25)) := below_new _ _
  have xg1 : (w8.alloc (.cells #[.int .i64 (oS a0 (pickR a0 b0 z1)), .int .i64 (oA (pickR a0 b0 z1))] 25)).heap[w8.heap.size]? = some (.cells #[.int .i64 (oS a0 (pickR a0 b0 z1)), .int .i64 (oA (pickR a0 b0 z1))] 25 (0, 0)) := box_new _ _ _
  generalize w8.alloc (.cells #[.int .i64 (oS a0 (pickR a0 b0 z1)), .int .i64 (oA (pickR a0 b0 z1))] 25) = w9 at b9 xg1 ⊢
  have B9 := B8.trans (b9.mono B8.size)
  have S9 := b9.size
  replace x0 := (b9.block _ (lt_of_block x0)).trans x0
  replace lx0 := lt_of_block x0
  clear cx0 dx0
  have cx0 := box_cell x0 0 _ rfl
  have dx0 := box_cell x0 1 _ rfl
  replace xw1 := (b9.block _ (lt_of_block xw1)).trans xw1
  replace lxw1 := lt_of_block xw1
  clear cxw1 dxw1
  have cxw1 := box_cell xw1 0 _ rfl
  have dxw1 := box_cell xw1 1 _ rfl
  replace o_t2 := o_t2.below b9
  clear b9
  have Z8 := Lib.hid B8
  clear B8 Z8
  have cxg1 := box_cell xg1 0 _ rfl
  have dxg1 := box_cell xg1 1 _ rfl
  have lxg1 := lt_of_block xg1
  have mxg1 := lt_of_block xg1
  refine (eqStream_true _ _ _).mono ?_
  rintro e w10 ⟨rfl, b10⟩
  have B10 := B9.trans (b10.mono B9.size)
  have S10 := b10.size
  replace x0 := (b10.block _ (lt_of_block x0)).trans x0
  replace lx0 := lt_of_block x0
  clear cx0 dx0
  have cx0 := box_cell x0 0 _ rfl
  have dx0 := box_cell x0 1 _ rfl
  replace xw1 := (b10.block _ (lt_of_block xw1)).trans xw1
  replace lxw1 := lt_of_block xw1
  clear cxw1 dxw1
  have cxw1 := box_cell xw1 0 _ rfl
  have dxw1 := box_cell xw1 1 _ rfl
  replace xg1 := (b10.block _ (lt_of_block xg1)).trans xg1
  replace lxg1 := lt_of_block xg1
  clear cxg1 dxg1
  have cxg1 := box_cell xg1 0 _ rfl
  have dxg1 := box_cell xg1 1 _ rfl
  replace o_t2 := o_t2.below b10
  clear b10
  have Z9 := Lib.hid B9
  clear B9 Z9
  go_wp2_with fail
  refine (toIntS_law _ _ _ _ _ (r1.below B10) (by omega)).mono ?_
  rintro e w11 ⟨A_t3, c_t3, rfl, o_t3, b11⟩
  have B11 := B10.trans (b11.mono B10.size)
  have S11 := b11.size
  replace x0 := (b11.block _ (lt_of_block x0)).trans x0
  replace lx0 := lt_of_block x0
  clear cx0 dx0
  have cx0 := box_cell x0 0 _ rfl
  have dx0 := box_cell x0 1 _ rfl
  replace xw1 := (b11.block _ (lt_of_block xw1)).trans xw1
  replace lxw1 := lt_of_block xw1
  clear cxw1 dxw1
  have cxw1 := box_cell xw1 0 _ rfl
  have dxw1 := box_cell xw1 1 _ rfl
  replace xg1 := (b11.block _ (lt_of_block xg1)).trans xg1
  replace lxg1 := lt_of_block xg1
  clear cxg1 dxg1
  have cxg1 := box_cell xg1 0 _ rfl
  have dxg1 := box_cell xg1 1 _ rfl
  replace o_t2 := o_t2.below b11
  clear b11
  have Z10 := Lib.hid B10
  clear B10 Z10
  go_wp2_with fail
  refine (eqIntS_law _ _ _ _ _ _ _ o_t2.ints o_t3.ints o_t2.small).mono ?_
  rintro e w12 ⟨rfl, b12⟩
  have B12 := B11.trans (b12.mono B11.size)
  have S12 := b12.size
  replace x0 := (b12.block _ (lt_of_block x0)).trans x0
  replace lx0 := lt_of_block x0
  clear cx0 dx0
  have cx0 := box_cell x0 0 _ rfl
  have dx0 := box_cell x0 1 _ rfl
  replace xw1 := (b12.block _ (lt_of_block xw1)).trans xw1
  replace lxw1 := lt_of_block xw1
  clear cxw1 dxw1
  have cxw1 := box_cell xw1 0 _ rfl
  have dxw1 := box_cell xw1 1 _ rfl
  replace xg1 := (b12.block _ (lt_of_block xg1)).trans xg1
  replace lxg1 := lt_of_block xg1
  clear cxg1 dxg1
  have cxg1 := box_cell xg1 0 _ rfl
  have dxg1 := box_cell xg1 1 _ rfl
  replace o_t2 := o_t2.below b12
  replace o_t3 := o_t3.below b12
  clear b12
  have Z11 := Lib.hid B11
  clear B11 Z11
  clear o_t3
  go_wp2
  go_ret
  exact ⟨rfl, B12⟩
end Go.Proofs.Ytnacabofhjjjpaa
