/- The walk of the law FnExactShuffleWith, printed by lawgen.py off the law's own text. -/
import Derived.Test.YtnacabofhjjjpaaShuf
namespace Go.Proofs.Ytnacabofhjjjpaa
open Go.RowKit

set_option maxRecDepth 100000 in
set_option maxHeartbeats 4000000 in
theorem walk_FnExactShuffleWith (a0 b0 : Int) (a1 : Int) (w : World) (_w0 : (Lit.int .i64 a0).wf = true) (_v0 : (Lit.int .i64 b0).wf = true) (_w1 : (Lit.int .i64 a1).wf = true) :
    Calls Try.prog 5 #[.agg #[.int .i64 a0, .int .i64 b0], .int .i64 a1] w fun e w' => e = .returned (.bool true) ∧ Below w.heap.size w w' := by
  go_enter Try.func5, Try.ntmps5
  have B0 : Below w.heap.size w w := Below.refl _ _
  go_wp2_with fail
  have b1 : Below w.heap.size w (w.alloc (.cells #[.int .i64 a0, .int .i64 b0] 23)) := below_new _ _
  have x0 : (w.alloc (.cells #[.int .i64 a0, .int .i64 b0] 23)).heap[w.heap.size]? = some (.cells #[.int .i64 a0, .int .i64 b0] 23 (0, 0)) := box_new _ _ _
  generalize w.alloc (.cells #[.int .i64 a0, .int .i64 b0] 23) = w1 at b1 x0 ⊢
  have B1 := B0.trans (b1.mono B0.size)
  have S1 := b1.size
  clear b1
  have Z0 := Lib.hid B0
  clear B0 Z0
  have cx0 := box_cell x0 0 _ rfl
  have dx0 := box_cell x0 1 _ rfl
  have lx0 := lt_of_block x0
  have mx0 := lt_of_block x0
  refine (toStream_any _ _ _).mono ?_
  rintro e w2 ⟨rfl, b2⟩
  have B2 := B1.trans (b2.mono B1.size)
  have S2 := b2.size
  replace x0 := (b2.block _ (lt_of_block x0)).trans x0
  replace lx0 := lt_of_block x0
  clear cx0 dx0
  have cx0 := box_cell x0 0 _ rfl
  have dx0 := box_cell x0 1 _ rfl
  clear b2
  have Z1 := Lib.hid B1
  clear B1 Z1
  go_wp2_with fail
  refine (specShuffleWith_law _ _ _ _ ).mono ?_
  rintro e w3 ⟨A_w0, c_w0, rfl, o_w0, b3⟩
  have B3 := B2.trans (b3.mono B2.size)
  have S3 := b3.size
  replace x0 := (b3.block _ (lt_of_block x0)).trans x0
  replace lx0 := lt_of_block x0
  clear cx0 dx0
  have cx0 := box_cell x0 0 _ rfl
  have dx0 := box_cell x0 1 _ rfl
  clear b3
  have Z2 := Lib.hid B2
  clear B2 Z2
  go_wp2_with fail
  have b4 : Below w3.heap.size w3 (w3.alloc (.cells #[.int .i64 (oS a0 (shufR a0 b0 a1)), .int .i64 (oA (shufR a0 b0 a1))] 25)) := below_new _ _
  have xw1 : (w3.alloc (.cells #[.int .i64 (oS a0 (shufR a0 b0 a1)), .int .i64 (oA (shufR a0 b0 a1))] 25)).heap[w3.heap.size]? = some (.cells #[.int .i64 (oS a0 (shufR a0 b0 a1)), .int .i64 (oA (shufR a0 b0 a1))] 25 (0, 0)) := box_new _ _ _
  generalize w3.alloc (.cells #[.int .i64 (oS a0 (shufR a0 b0 a1)), .int .i64 (oA (shufR a0 b0 a1))] 25) = w4 at b4 xw1 ⊢
  have B4 := B3.trans (b4.mono B3.size)
  have S4 := b4.size
  replace x0 := (b4.block _ (lt_of_block x0)).trans x0
  replace lx0 := lt_of_block x0
  clear cx0 dx0
  have cx0 := box_cell x0 0 _ rfl
  have dx0 := box_cell x0 1 _ rfl
  replace o_w0 := o_w0.below b4
  clear b4
  have Z3 := Lib.hid B3
  clear B3 Z3
  have cxw1 := box_cell xw1 0 _ rfl
  have dxw1 := box_cell xw1 1 _ rfl
  have lxw1 := lt_of_block xw1
  have mxw1 := lt_of_block xw1
  refine (toStream_any _ _ _).mono ?_
  rintro e w5 ⟨rfl, b5⟩
  have B5 := B4.trans (b5.mono B4.size)
  have S5 := b5.size
  replace x0 := (b5.block _ (lt_of_block x0)).trans x0
  replace lx0 := lt_of_block x0
  clear cx0 dx0
  have cx0 := box_cell x0 0 _ rfl
  have dx0 := box_cell x0 1 _ rfl
  replace xw1 := (b5.block _ (lt_of_block xw1)).trans xw1
  replace lxw1 := lt_of_block xw1
  clear cxw1 dxw1
  have cxw1 := box_cell xw1 0 _ rfl
  have dxw1 := box_cell xw1 1 _ rfl
  replace o_w0 := o_w0.below b5
  clear b5
  have Z4 := Lib.hid B4
  clear B4 Z4
  go_wp2_with fail
  refine (implShuffleWith_law _ _ _ _ ).mono ?_
  rintro e w6 ⟨A_g0, c_g0, rfl, o_g0, b6⟩
  have B6 := B5.trans (b6.mono B5.size)
  have S6 := b6.size
  replace x0 := (b6.block _ (lt_of_block x0)).trans x0
  replace lx0 := lt_of_block x0
  clear cx0 dx0
  have cx0 := box_cell x0 0 _ rfl
  have dx0 := box_cell x0 1 _ rfl
  replace xw1 := (b6.block _ (lt_of_block xw1)).trans xw1
  replace lxw1 := lt_of_block xw1
  clear cxw1 dxw1
  have cxw1 := box_cell xw1 0 _ rfl
  have dxw1 := box_cell xw1 1 _ rfl
  replace o_w0 := o_w0.below b6
  clear b6
  have Z5 := Lib.hid B5
  clear B5 Z5
  go_wp2_with fail
  have b7 : Below w6.heap.size w6 (w6.alloc (.cells #[.int .i64 (oS a0 (shufR a0 b0 a1)), .int .i64 (oA (shufR a0 b0 a1))] 25)) := below_new _ _
  have xg1 : (w6.alloc (.cells #[.int .i64 (oS a0 (shufR a0 b0 a1)), .int .i64 (oA (shufR a0 b0 a1))] 25)).heap[w6.heap.size]? = some (.cells #[.int .i64 (oS a0 (shufR a0 b0 a1)), .int .i64 (oA (shufR a0 b0 a1))] 25 (0, 0)) := box_new _ _ _
  generalize w6.alloc (.cells #[.int .i64 (oS a0 (shufR a0 b0 a1)), .int .i64 (oA (shufR a0 b0 a1))] 25) = w7 at b7 xg1 ⊢
  have B7 := B6.trans (b7.mono B6.size)
  have S7 := b7.size
  replace x0 := (b7.block _ (lt_of_block x0)).trans x0
  replace lx0 := lt_of_block x0
  clear cx0 dx0
  have cx0 := box_cell x0 0 _ rfl
  have dx0 := box_cell x0 1 _ rfl
  replace xw1 := (b7.block _ (lt_of_block xw1)).trans xw1
  replace lxw1 := lt_of_block xw1
  clear cxw1 dxw1
  have cxw1 := box_cell xw1 0 _ rfl
  have dxw1 := box_cell xw1 1 _ rfl
  replace o_w0 := o_w0.below b7
  replace o_g0 := o_g0.below b7
  clear b7
  have Z6 := Lib.hid B6
  clear B6 Z6
  have cxg1 := box_cell xg1 0 _ rfl
  have dxg1 := box_cell xg1 1 _ rfl
  have lxg1 := lt_of_block xg1
  have mxg1 := lt_of_block xg1
  refine (eqIntS_law _ _ _ _ _ _ _ o_g0.ints o_w0.ints o_g0.small).mono ?_
  rintro e w8 ⟨rfl, b8⟩
  have B8 := B7.trans (b8.mono B7.size)
  have S8 := b8.size
  replace x0 := (b8.block _ (lt_of_block x0)).trans x0
  replace lx0 := lt_of_block x0
  clear cx0 dx0
  have cx0 := box_cell x0 0 _ rfl
  have dx0 := box_cell x0 1 _ rfl
  replace xw1 := (b8.block _ (lt_of_block xw1)).trans xw1
  replace lxw1 := lt_of_block xw1
  clear cxw1 dxw1
  have cxw1 := box_cell xw1 0 _ rfl
  have dxw1 := box_cell xw1 1 _ rfl
  replace xg1 := (b8.block _ (lt_of_block xg1)).trans xg1
  replace lxg1 := lt_of_block xg1
  clear cxg1 dxg1
  have cxg1 := box_cell xg1 0 _ rfl
  have dxg1 := box_cell xg1 1 _ rfl
  replace o_w0 := o_w0.below b8
  replace o_g0 := o_g0.below b8
  clear b8
  have Z7 := Lib.hid B7
  clear B7 Z7
  go_wp2_with fail
  refine (eqStream_true _ _ _).mono ?_
  rintro e w9 ⟨rfl, b9⟩
  have B9 := B8.trans (b9.mono B8.size)
  have S9 := b9.size
  replace x0 := (b9.block _ (lt_of_block x0)).trans x0
  replace lx0 := lt_of_block x0
  clear cx0 dx0
  have cx0 := box_cell x0 0 _ rfl
  have dx0 := box_cell x0 1 _ rfl
  replace xw1 := (b9.block _ (lt_of_block xw1)).trans xw1
  replace lxw1 := lt_of_block xw1
  clear cxw1 dxw1
  have cxw1 := box_cell xw1 0 _ rfl
  have dxw1 := box_cell xw1 1 _ rfl
  replace xg1 := (b9.block _ (lt_of_block xg1)).trans xg1
  replace lxg1 := lt_of_block xg1
  clear cxg1 dxg1
  have cxg1 := box_cell xg1 0 _ rfl
  have dxg1 := box_cell xg1 1 _ rfl
  replace o_w0 := o_w0.below b9
  replace o_g0 := o_g0.below b9
  clear b9
  have Z8 := Lib.hid B8
  clear B8 Z8
  go_wp2_with fail
  have s_w0 := o_w0.small
  have s_g0 := o_g0.small
  have p_g0 := o_g0
  clear o_g0
  refine (markIntS_law _ _ _ _ _ _ _ _ p_g0 (by omega) (by omega)).mono ?_
  rintro e w10 ⟨rfl, o_g0, b10⟩
  have B10 := b10.below B9 (by omega) B9.size
  have S10 := b10.size
  replace x0 := (b10.block _ (lt_of_block x0) (by omega)).trans x0
  replace lx0 := lt_of_block x0
  clear cx0 dx0
  have cx0 := box_cell x0 0 _ rfl
  have dx0 := box_cell x0 1 _ rfl
  replace xw1 := (b10.block _ (lt_of_block xw1) (by omega)).trans xw1
  replace lxw1 := lt_of_block xw1
  clear cxw1 dxw1
  have cxw1 := box_cell xw1 0 _ rfl
  have dxw1 := box_cell xw1 1 _ rfl
  replace xg1 := (b10.block _ (lt_of_block xg1) (by omega)).trans xg1
  replace lxg1 := lt_of_block xg1
  clear cxg1 dxg1
  have cxg1 := box_cell xg1 0 _ rfl
  have dxg1 := box_cell xg1 1 _ rfl
  replace o_w0 := o_w0.chg b10 (by omega)
  clear b10
  have Z9 := Lib.hid B9
  clear B9 Z9
  clear p_g0
  go_wp2_with fail
  refine (heldIntS_law _ _ _ _ _ o_g0.ints o_g0.small (by omega) (by omega)).mono ?_
  rintro e w11 ⟨rfl, b11⟩
  have B11 := B10.trans (b11.mono B10.size)
  have S11 := b11.size
  replace x0 := (b11.block _ (lt_of_block x0)).trans x0
  replace lx0 := lt_of_block x0
  clear cx0 dx0
  have cx0 := box_cell x0 0 _ rfl
  have dx0 := box_cell x0 1 _ rfl
  replace xw1 := (b11.block _ (lt_of_block xw1)).trans xw1
  replace lxw1 := lt_of_block xw1
  clear cxw1 dxw1
  have cxw1 := box_cell xw1 0 _ rfl
  have dxw1 := box_cell xw1 1 _ rfl
  replace xg1 := (b11.block _ (lt_of_block xg1)).trans xg1
  replace lxg1 := lt_of_block xg1
  clear cxg1 dxg1
  have cxg1 := box_cell xg1 0 _ rfl
  have dxg1 := box_cell xg1 1 _ rfl
  replace o_w0 := o_w0.below b11
  replace o_g0 := o_g0.below b11
  clear b11
  have Z10 := Lib.hid B10
  clear B10 Z10
  go_wp2_with fail
  refine (toStream_any _ _ _).mono ?_
  rintro e w12 ⟨rfl, b12⟩
  have B12 := B11.trans (b12.mono B11.size)
  have S12 := b12.size
  replace x0 := (b12.block _ (lt_of_block x0)).trans x0
  replace lx0 := lt_of_block x0
  clear cx0 dx0
  have cx0 := box_cell x0 0 _ rfl
  have dx0 := box_cell x0 1 _ rfl
  replace xw1 := (b12.block _ (lt_of_block xw1)).trans xw1
  replace lxw1 := lt_of_block xw1
  clear cxw1 dxw1
  have cxw1 := box_cell xw1 0 _ rfl
  have dxw1 := box_cell xw1 1 _ rfl
  replace xg1 := (b12.block _ (lt_of_block xg1)).trans xg1
  replace lxg1 := lt_of_block xg1
  clear cxg1 dxg1
  have cxg1 := box_cell xg1 0 _ rfl
  have dxg1 := box_cell xg1 1 _ rfl
  replace o_w0 := o_w0.below b12
  replace o_g0 := o_g0.below b12
  clear b12
  have Z11 := Lib.hid B11
  clear B11 Z11
  go_wp2_with fail
  refine (implShuffleWith_law _ _ _ _ ).mono ?_
  rintro e w13 ⟨A_h0, c_h0, rfl, o_h0, b13⟩
  have B13 := B12.trans (b13.mono B12.size)
  have S13 := b13.size
  replace x0 := (b13.block _ (lt_of_block x0)).trans x0
  replace lx0 := lt_of_block x0
  clear cx0 dx0
  have cx0 := box_cell x0 0 _ rfl
  have dx0 := box_cell x0 1 _ rfl
  replace xw1 := (b13.block _ (lt_of_block xw1)).trans xw1
  replace lxw1 := lt_of_block xw1
  clear cxw1 dxw1
  have cxw1 := box_cell xw1 0 _ rfl
  have dxw1 := box_cell xw1 1 _ rfl
  replace xg1 := (b13.block _ (lt_of_block xg1)).trans xg1
  replace lxg1 := lt_of_block xg1
  clear cxg1 dxg1
  have cxg1 := box_cell xg1 0 _ rfl
  have dxg1 := box_cell xg1 1 _ rfl
  replace o_w0 := o_w0.below b13
  replace o_g0 := o_g0.below b13
  clear b13
  have Z12 := Lib.hid B12
  clear B12 Z12
  go_wp2_with fail
  have b14 : Below w13.heap.size w13 (w13.alloc (.cells #[.int .i64 (oS a0 (shufR a0 b0 a1)), .int .i64 (oA (shufR a0 b0 a1))] 25)) := below_new _ _
  have xh1 : (w13.alloc (.cells #[.int .i64 (oS a0 (shufR a0 b0 a1)), .int .i64 (oA (shufR a0 b0 a1))] 25)).heap[w13.heap.size]? = some (.cells #[.int .i64 (oS a0 (shufR a0 b0 a1)), .int .i64 (oA (shufR a0 b0 a1))] 25 (0, 0)) := box_new _ _ _
  generalize w13.alloc (.cells #[.int .i64 (oS a0 (shufR a0 b0 a1)), .int .i64 (oA (shufR a0 b0 a1))] 25) = w14 at b14 xh1 ⊢
  have B14 := B13.trans (b14.mono B13.size)
  have S14 := b14.size
  replace x0 := (b14.block _ (lt_of_block x0)).trans x0
  replace lx0 := lt_of_block x0
  clear cx0 dx0
  have cx0 := box_cell x0 0 _ rfl
  have dx0 := box_cell x0 1 _ rfl
  replace xw1 := (b14.block _ (lt_of_block xw1)).trans xw1
  replace lxw1 := lt_of_block xw1
  clear cxw1 dxw1
  have cxw1 := box_cell xw1 0 _ rfl
  have dxw1 := box_cell xw1 1 _ rfl
  replace xg1 := (b14.block _ (lt_of_block xg1)).trans xg1
  replace lxg1 := lt_of_block xg1
  clear cxg1 dxg1
  have cxg1 := box_cell xg1 0 _ rfl
  have dxg1 := box_cell xg1 1 _ rfl
  replace o_w0 := o_w0.below b14
  replace o_g0 := o_g0.below b14
  replace o_h0 := o_h0.below b14
  clear b14
  have Z13 := Lib.hid B13
  clear B13 Z13
  have cxh1 := box_cell xh1 0 _ rfl
  have dxh1 := box_cell xh1 1 _ rfl
  have lxh1 := lt_of_block xh1
  have mxh1 := lt_of_block xh1
  refine (eqIntS_law _ _ _ _ _ _ _ o_h0.ints o_w0.ints o_h0.small).mono ?_
  rintro e w15 ⟨rfl, b15⟩
  have B15 := B14.trans (b15.mono B14.size)
  have S15 := b15.size
  replace x0 := (b15.block _ (lt_of_block x0)).trans x0
  replace lx0 := lt_of_block x0
  clear cx0 dx0
  have cx0 := box_cell x0 0 _ rfl
  have dx0 := box_cell x0 1 _ rfl
  replace xw1 := (b15.block _ (lt_of_block xw1)).trans xw1
  replace lxw1 := lt_of_block xw1
  clear cxw1 dxw1
  have cxw1 := box_cell xw1 0 _ rfl
  have dxw1 := box_cell xw1 1 _ rfl
  replace xg1 := (b15.block _ (lt_of_block xg1)).trans xg1
  replace lxg1 := lt_of_block xg1
  clear cxg1 dxg1
  have cxg1 := box_cell xg1 0 _ rfl
  have dxg1 := box_cell xg1 1 _ rfl
  replace xh1 := (b15.block _ (lt_of_block xh1)).trans xh1
  replace lxh1 := lt_of_block xh1
  clear cxh1 dxh1
  have cxh1 := box_cell xh1 0 _ rfl
  have dxh1 := box_cell xh1 1 _ rfl
  replace o_w0 := o_w0.below b15
  replace o_g0 := o_g0.below b15
  replace o_h0 := o_h0.below b15
  clear b15
  have Z14 := Lib.hid B14
  clear B14 Z14
  go_wp2_with fail
  refine (eqStream_true _ _ _).mono ?_
  rintro e w16 ⟨rfl, b16⟩
  have B16 := B15.trans (b16.mono B15.size)
  have S16 := b16.size
  replace x0 := (b16.block _ (lt_of_block x0)).trans x0
  replace lx0 := lt_of_block x0
  clear cx0 dx0
  have cx0 := box_cell x0 0 _ rfl
  have dx0 := box_cell x0 1 _ rfl
  replace xw1 := (b16.block _ (lt_of_block xw1)).trans xw1
  replace lxw1 := lt_of_block xw1
  clear cxw1 dxw1
  have cxw1 := box_cell xw1 0 _ rfl
  have dxw1 := box_cell xw1 1 _ rfl
  replace xg1 := (b16.block _ (lt_of_block xg1)).trans xg1
  replace lxg1 := lt_of_block xg1
  clear cxg1 dxg1
  have cxg1 := box_cell xg1 0 _ rfl
  have dxg1 := box_cell xg1 1 _ rfl
  replace xh1 := (b16.block _ (lt_of_block xh1)).trans xh1
  replace lxh1 := lt_of_block xh1
  clear cxh1 dxh1
  have cxh1 := box_cell xh1 0 _ rfl
  have dxh1 := box_cell xh1 1 _ rfl
  replace o_w0 := o_w0.below b16
  replace o_g0 := o_g0.below b16
  replace o_h0 := o_h0.below b16
  clear b16
  have Z15 := Lib.hid B15
  clear B15 Z15
  go_wp2_with fail
  refine (heldIntS_law _ _ _ _ _ o_g0.ints o_g0.small (by omega) (by omega)).mono ?_
  rintro e w17 ⟨rfl, b17⟩
  have B17 := B16.trans (b17.mono B16.size)
  have S17 := b17.size
  replace x0 := (b17.block _ (lt_of_block x0)).trans x0
  replace lx0 := lt_of_block x0
  clear cx0 dx0
  have cx0 := box_cell x0 0 _ rfl
  have dx0 := box_cell x0 1 _ rfl
  replace xw1 := (b17.block _ (lt_of_block xw1)).trans xw1
  replace lxw1 := lt_of_block xw1
  clear cxw1 dxw1
  have cxw1 := box_cell xw1 0 _ rfl
  have dxw1 := box_cell xw1 1 _ rfl
  replace xg1 := (b17.block _ (lt_of_block xg1)).trans xg1
  replace lxg1 := lt_of_block xg1
  clear cxg1 dxg1
  have cxg1 := box_cell xg1 0 _ rfl
  have dxg1 := box_cell xg1 1 _ rfl
  replace xh1 := (b17.block _ (lt_of_block xh1)).trans xh1
  replace lxh1 := lt_of_block xh1
  clear cxh1 dxh1
  have cxh1 := box_cell xh1 0 _ rfl
  have dxh1 := box_cell xh1 1 _ rfl
  replace o_w0 := o_w0.below b17
  replace o_g0 := o_g0.below b17
  replace o_h0 := o_h0.below b17
  clear b17
  have Z16 := Lib.hid B16
  clear B16 Z16
  go_wp2
  go_ret
  exact ⟨rfl, B17⟩
end Go.Proofs.Ytnacabofhjjjpaa
