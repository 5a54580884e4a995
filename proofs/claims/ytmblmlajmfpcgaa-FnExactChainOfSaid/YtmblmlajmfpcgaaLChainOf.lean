/- The walk of the law FnExactChainOf, printed by lawgen.py off the law's own text. -/
import Derived.Test.YtmblmlajmfpcgaaSealLaws
namespace Go.Proofs.Ytmblmlajmfpcgaa
open Go.RowKit

set_option maxHeartbeats 2000000 in
theorem walk_FnExactChainOf (A0 : Option Addr) (n0 c0 : Nat) (z0 : List Int) (w : World) (r0 : Ints w A0 n0 z0) (m0 : n0 ≤ maxLen) (_f0 : ∀ x ∈ z0, (Lit.int .i64 x).wf = true) :
    Calls Try.prog 12 #[.slice A0 n0 c0] w fun e w' => e = .returned (.bool true) ∧ Below w.heap.size w w' := by
  unfold maxLen at m0
  rcases Nat.lt_or_ge 1048576 n0 with g0 | g0
  · go_enter Try.func12, Try.ntmps12
    go_wp2
    go_ret
    exact ⟨rfl, Below.refl _ _⟩
  go_enter Try.func12, Try.ntmps12
  go_wp2_with fail
  have B0 : Below w.heap.size w w := Below.refl _ _
  refine (toIntS_law _ _ _ _ _ (r0.below B0) (by omega)).mono ?_
  rintro e w1 ⟨A_t1, c_t1, rfl, o_t1, b1⟩
  have B1 := B0.trans (b1.mono B0.size)
  have S1 := b1.size
  clear b1
  have Z0 := Lib.hid B0
  clear B0 Z0
  go_wp2_with fail
  refine (specChainOf_law _ _ _ _ _ o_t1.ints o_t1.small).mono ?_
  rintro e w2 ⟨A_w0, c_w0, rfl, o_w0, b2⟩
  have B2 := B1.trans (b2.mono B1.size)
  have S2 := b2.size
  have o_t1_ := o_t1.below b2
  clear o_t1
  have o_t1 := o_t1_
  clear o_t1_
  clear b2
  have Z1 := Lib.hid B1
  clear B1 Z1
  clear o_t1
  go_wp2_with fail
  refine (toIntS_law _ _ _ _ _ (r0.below B2) (by omega)).mono ?_
  rintro e w3 ⟨A_t2, c_t2, rfl, o_t2, b3⟩
  have B3 := B2.trans (b3.mono B2.size)
  have S3 := b3.size
  have o_w0_ := o_w0.below b3
  clear o_w0
  have o_w0 := o_w0_
  clear o_w0_
  clear b3
  have Z2 := Lib.hid B2
  clear B2 Z2
  go_wp2_with fail
  refine (implChainOf_law _ _ _ _ _ o_t2.ints o_t2.small).mono ?_
  rintro e w4 ⟨A_g0, c_g0, rfl, o_g0, b4⟩
  have B4 := B3.trans (b4.mono B3.size)
  have S4 := b4.size
  have o_w0_ := o_w0.below b4
  clear o_w0
  have o_w0 := o_w0_
  clear o_w0_
  have o_t2_ := o_t2.below b4
  clear o_t2
  have o_t2 := o_t2_
  clear o_t2_
  clear b4
  have Z3 := Lib.hid B3
  clear B3 Z3
  go_wp2_with fail
  refine (eqIntS_law _ _ _ _ _ _ _ o_g0.ints o_w0.ints o_g0.small).mono ?_
  rintro e w5 ⟨rfl, b5⟩
  have B5 := B4.trans (b5.mono B4.size)
  have S5 := b5.size
  have o_w0_ := o_w0.below b5
  clear o_w0
  have o_w0 := o_w0_
  clear o_w0_
  have o_t2_ := o_t2.below b5
  clear o_t2
  have o_t2 := o_t2_
  clear o_t2_
  have o_g0_ := o_g0.below b5
  clear o_g0
  have o_g0 := o_g0_
  clear o_g0_
  clear b5
  have Z4 := Lib.hid B4
  clear B4 Z4
  go_wp2_with fail
  refine (toIntS_law _ _ _ _ _ (r0.below B5) (by omega)).mono ?_
  rintro e w6 ⟨A_t3, c_t3, rfl, o_t3, b6⟩
  have B6 := B5.trans (b6.mono B5.size)
  have S6 := b6.size
  have o_w0_ := o_w0.below b6
  clear o_w0
  have o_w0 := o_w0_
  clear o_w0_
  have o_t2_ := o_t2.below b6
  clear o_t2
  have o_t2 := o_t2_
  clear o_t2_
  have o_g0_ := o_g0.below b6
  clear o_g0
  have o_g0 := o_g0_
  clear o_g0_
  clear b6
  have Z5 := Lib.hid B5
  clear B5 Z5
  go_wp2_with fail
  refine (eqIntS_law _ _ _ _ _ _ _ o_t2.ints o_t3.ints o_t2.small).mono ?_
  rintro e w7 ⟨rfl, b7⟩
  have B7 := B6.trans (b7.mono B6.size)
  have S7 := b7.size
  have o_w0_ := o_w0.below b7
  clear o_w0
  have o_w0 := o_w0_
  clear o_w0_
  have o_t2_ := o_t2.below b7
  clear o_t2
  have o_t2 := o_t2_
  clear o_t2_
  have o_g0_ := o_g0.below b7
  clear o_g0
  have o_g0 := o_g0_
  clear o_g0_
  have o_t3_ := o_t3.below b7
  clear o_t3
  have o_t3 := o_t3_
  clear o_t3_
  clear b7
  have Z6 := Lib.hid B6
  clear B6 Z6
  clear o_t3
  have s_w0 := o_w0.small
  have s_t2 := o_t2.small
  have s_g0 := o_g0.small
  have o_t2_ := o_t2
  clear o_t2
  go_wp2_with fail
  refine (markIntS_law _ _ _ _ _ _ _ _ o_t2_ (by omega) (by omega)).mono ?_
  rintro e w8 ⟨rfl, o_t2, b8⟩
  have B8 := b8.below B7 (by omega) B7.size
  have S8 := b8.size
  have o_w0_ := o_w0.chg b8 (by omega)
  clear o_w0
  have o_w0 := o_w0_
  clear o_w0_
  have o_g0_ := o_g0.chg b8 (by omega)
  clear o_g0
  have o_g0 := o_g0_
  clear o_g0_
  clear b8
  have Z7 := Lib.hid B7
  clear B7 Z7
  clear o_t2_
  go_wp2_with fail
  refine (eqIntS_law _ _ _ _ _ _ _ o_g0.ints o_w0.ints o_g0.small).mono ?_
  rintro e w9 ⟨rfl, b9⟩
  have B9 := B8.trans (b9.mono B8.size)
  have S9 := b9.size
  have o_w0_ := o_w0.below b9
  clear o_w0
  have o_w0 := o_w0_
  clear o_w0_
  have o_t2_ := o_t2.below b9
  clear o_t2
  have o_t2 := o_t2_
  clear o_t2_
  have o_g0_ := o_g0.below b9
  clear o_g0
  have o_g0 := o_g0_
  clear o_g0_
  clear b9
  have Z8 := Lib.hid B8
  clear B8 Z8
  have o_g0_ := o_g0
  clear o_g0
  go_wp2_with fail
  refine (markIntS_law _ _ _ _ _ _ _ _ o_g0_ (by omega) (by omega)).mono ?_
  rintro e w10 ⟨rfl, o_g0, b10⟩
  have B10 := b10.below B9 (by omega) B9.size
  have S10 := b10.size
  have o_w0_ := o_w0.chg b10 (by omega)
  clear o_w0
  have o_w0 := o_w0_
  clear o_w0_
  have o_t2_ := o_t2.chg b10 (by omega)
  clear o_t2
  have o_t2 := o_t2_
  clear o_t2_
  clear b10
  have Z9 := Lib.hid B9
  clear B9 Z9
  clear o_g0_
  go_wp2_with fail
  refine (heldIntS_law _ _ _ _ _ o_g0.ints o_g0.small (by omega) (by omega)).mono ?_
  rintro e w11 ⟨rfl, b11⟩
  have B11 := B10.trans (b11.mono B10.size)
  have S11 := b11.size
  have o_w0_ := o_w0.below b11
  clear o_w0
  have o_w0 := o_w0_
  clear o_w0_
  have o_t2_ := o_t2.below b11
  clear o_t2
  have o_t2 := o_t2_
  clear o_t2_
  have o_g0_ := o_g0.below b11
  clear o_g0
  have o_g0 := o_g0_
  clear o_g0_
  clear b11
  have Z10 := Lib.hid B10
  clear B10 Z10
  go_wp2_with fail
  refine (toIntS_law _ _ _ _ _ (r0.below B11) (by omega)).mono ?_
  rintro e w12 ⟨A_t4, c_t4, rfl, o_t4, b12⟩
  have B12 := B11.trans (b12.mono B11.size)
  have S12 := b12.size
  have o_w0_ := o_w0.below b12
  clear o_w0
  have o_w0 := o_w0_
  clear o_w0_
  have o_t2_ := o_t2.below b12
  clear o_t2
  have o_t2 := o_t2_
  clear o_t2_
  have o_g0_ := o_g0.below b12
  clear o_g0
  have o_g0 := o_g0_
  clear o_g0_
  clear b12
  have Z11 := Lib.hid B11
  clear B11 Z11
  go_wp2_with fail
  refine (implChainOf_law _ _ _ _ _ o_t4.ints o_t4.small).mono ?_
  rintro e w13 ⟨A_h0, c_h0, rfl, o_h0, b13⟩
  have B13 := B12.trans (b13.mono B12.size)
  have S13 := b13.size
  have o_w0_ := o_w0.below b13
  clear o_w0
  have o_w0 := o_w0_
  clear o_w0_
  have o_t2_ := o_t2.below b13
  clear o_t2
  have o_t2 := o_t2_
  clear o_t2_
  have o_g0_ := o_g0.below b13
  clear o_g0
  have o_g0 := o_g0_
  clear o_g0_
  have o_t4_ := o_t4.below b13
  clear o_t4
  have o_t4 := o_t4_
  clear o_t4_
  clear b13
  have Z12 := Lib.hid B12
  clear B12 Z12
  clear o_t4
  go_wp2_with fail
  refine (eqIntS_law _ _ _ _ _ _ _ o_h0.ints o_w0.ints o_h0.small).mono ?_
  rintro e w14 ⟨rfl, b14⟩
  have B14 := B13.trans (b14.mono B13.size)
  have S14 := b14.size
  have o_w0_ := o_w0.below b14
  clear o_w0
  have o_w0 := o_w0_
  clear o_w0_
  have o_t2_ := o_t2.below b14
  clear o_t2
  have o_t2 := o_t2_
  clear o_t2_
  have o_g0_ := o_g0.below b14
  clear o_g0
  have o_g0 := o_g0_
  clear o_g0_
  have o_h0_ := o_h0.below b14
  clear o_h0
  have o_h0 := o_h0_
  clear o_h0_
  clear b14
  have Z13 := Lib.hid B13
  clear B13 Z13
  go_wp2_with fail
  refine (heldIntS_law _ _ _ _ _ o_g0.ints o_g0.small (by omega) (by omega)).mono ?_
  rintro e w15 ⟨rfl, b15⟩
  have B15 := B14.trans (b15.mono B14.size)
  have S15 := b15.size
  have o_w0_ := o_w0.below b15
  clear o_w0
  have o_w0 := o_w0_
  clear o_w0_
  have o_t2_ := o_t2.below b15
  clear o_t2
  have o_t2 := o_t2_
  clear o_t2_
  have o_g0_ := o_g0.below b15
  clear o_g0
  have o_g0 := o_g0_
  clear o_g0_
  have o_h0_ := o_h0.below b15
  clear o_h0
  have o_h0 := o_h0_
  clear o_h0_
  clear b15
  have Z14 := Lib.hid B14
  clear B14 Z14
  go_wp2
  go_ret
  exact ⟨rfl, B15⟩
end Go.Proofs.Ytmblmlajmfpcgaa
