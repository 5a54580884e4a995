/- The walk of the law FnExactSealParts, printed by lawgen.py off the law's own text. -/
import Derived.Test.YtmblmlajmfpcgaaSealLaws
namespace Go.Proofs.Ytmblmlajmfpcgaa
open Go.RowKit

set_option maxHeartbeats 2000000 in
theorem walk_FnExactSealParts (A0 : Option Addr) (n0 c0 : Nat) (z0 : List Int) (A1 : Option Addr) (n1 c1 : Nat) (z1 : List Int) (w : World) (r0 : Ints w A0 n0 z0) (m0 : n0 ≤ maxLen) (_f0 : ∀ x ∈ z0, (Lit.int .i64 x).wf = true) (r1 : Ints w A1 n1 z1) (m1 : n1 ≤ maxLen) (_f1 : ∀ x ∈ z1, (Lit.int .i64 x).wf = true) :
    Calls Try.prog 14 #[.slice A0 n0 c0, .slice A1 n1 c1] w fun e w' => e = .returned (.bool true) ∧ Below w.heap.size w w' := by
  unfold maxLen at m0
  unfold maxLen at m1
  rcases Nat.lt_or_ge 1048576 n0 with g0 | g0
  · go_enter Try.func14, Try.ntmps14
    go_wp2
    go_ret
    exact ⟨rfl, Below.refl _ _⟩
  rcases Nat.lt_or_ge 1048576 n1 with g1 | g1
  · go_enter Try.func14, Try.ntmps14
    go_wp2
    go_ret
    exact ⟨rfl, Below.refl _ _⟩
  go_enter Try.func14, Try.ntmps14
  go_wp2_with fail
  have B0 : Below w.heap.size w w := Below.refl _ _
  refine (toIntS_law _ _ _ _ _ (r0.below B0) (by omega)).mono ?_
  rintro e w1 ⟨A_t1, c_t1, rfl, o_t1, b1⟩
  have B1 := B0.trans (b1.mono B0.size)
  have S1 := b1.size
  clear b1
  have Z0 := Lib.hid B0
  clear B0 Z0
  go_wp2_with fail
  refine (toIntS_law _ _ _ _ _ (r1.below B1) (by omega)).mono ?_
  rintro e w2 ⟨A_t2, c_t2, rfl, o_t2, b2⟩
  have B2 := B1.trans (b2.mono B1.size)
  have S2 := b2.size
  have o_t1_ := o_t1.below b2
  clear o_t1
  have o_t1 := o_t1_
  clear o_t1_
  clear b2
  have Z1 := Lib.hid B1
  clear B1 Z1
  go_wp2_with fail
  refine (specSealParts_law _ _ _ _ _ _ _ _ _ o_t1.ints o_t1.small o_t2.ints o_t2.small).mono ?_
  rintro e w3 ⟨A_w0, c_w0, rfl, o_w0, b3⟩
  have B3 := B2.trans (b3.mono B2.size)
  have S3 := b3.size
  have o_t1_ := o_t1.below b3
  clear o_t1
  have o_t1 := o_t1_
  clear o_t1_
  have o_t2_ := o_t2.below b3
  clear o_t2
  have o_t2 := o_t2_
  clear o_t2_
  clear b3
  have Z2 := Lib.hid B2
  clear B2 Z2
  clear o_t1
  clear o_t2
  go_wp2_with fail
  refine (toIntS_law _ _ _ _ _ (r0.below B3) (by omega)).mono ?_
  rintro e w4 ⟨A_t3, c_t3, rfl, o_t3, b4⟩
  have B4 := B3.trans (b4.mono B3.size)
  have S4 := b4.size
  have o_w0_ := o_w0.below b4
  clear o_w0
  have o_w0 := o_w0_
  clear o_w0_
  clear b4
  have Z3 := Lib.hid B3
  clear B3 Z3
  go_wp2_with fail
  refine (toIntS_law _ _ _ _ _ (r1.below B4) (by omega)).mono ?_
  rintro e w5 ⟨A_t4, c_t4, rfl, o_t4, b5⟩
  have B5 := B4.trans (b5.mono B4.size)
  have S5 := b5.size
  have o_w0_ := o_w0.below b5
  clear o_w0
  have o_w0 := o_w0_
  clear o_w0_
  have o_t3_ := o_t3.below b5
  clear o_t3
  have o_t3 := o_t3_
  clear o_t3_
  clear b5
  have Z4 := Lib.hid B4
  clear B4 Z4
  go_wp2_with fail
  refine (implSealParts_law _ _ _ _ _ _ _ _ _ o_t3.ints o_t3.small o_t4.ints o_t4.small).mono ?_
  rintro e w6 ⟨A_g0, c_g0, rfl, o_g0, b6⟩
  have B6 := B5.trans (b6.mono B5.size)
  have S6 := b6.size
  have o_w0_ := o_w0.below b6
  clear o_w0
  have o_w0 := o_w0_
  clear o_w0_
  have o_t3_ := o_t3.below b6
  clear o_t3
  have o_t3 := o_t3_
  clear o_t3_
  have o_t4_ := o_t4.below b6
  clear o_t4
  have o_t4 := o_t4_
  clear o_t4_
  clear b6
  have Z5 := Lib.hid B5
  clear B5 Z5
  go_wp2_with fail
  refine (eqIntS_law _ _ _ _ _ _ _ o_g0.ints o_w0.ints o_g0.small).mono ?_
  rintro e w7 ⟨rfl, b7⟩
  have B7 := B6.trans (b7.mono B6.size)
  have S7 := b7.size
  have o_w0_ := o_w0.below b7
  clear o_w0
  have o_w0 := o_w0_
  clear o_w0_
  have o_t3_ := o_t3.below b7
  clear o_t3
  have o_t3 := o_t3_
  clear o_t3_
  have o_t4_ := o_t4.below b7
  clear o_t4
  have o_t4 := o_t4_
  clear o_t4_
  have o_g0_ := o_g0.below b7
  clear o_g0
  have o_g0 := o_g0_
  clear o_g0_
  clear b7
  have Z6 := Lib.hid B6
  clear B6 Z6
  go_wp2_with fail
  refine (toIntS_law _ _ _ _ _ (r0.below B7) (by omega)).mono ?_
  rintro e w8 ⟨A_t5, c_t5, rfl, o_t5, b8⟩
  have B8 := B7.trans (b8.mono B7.size)
  have S8 := b8.size
  have o_w0_ := o_w0.below b8
  clear o_w0
  have o_w0 := o_w0_
  clear o_w0_
  have o_t3_ := o_t3.below b8
  clear o_t3
  have o_t3 := o_t3_
  clear o_t3_
  have o_t4_ := o_t4.below b8
  clear o_t4
  have o_t4 := o_t4_
  clear o_t4_
  have o_g0_ := o_g0.below b8
  clear o_g0
  have o_g0 := o_g0_
  clear o_g0_
  clear b8
  have Z7 := Lib.hid B7
  clear B7 Z7
  go_wp2_with fail
  refine (eqIntS_law _ _ _ _ _ _ _ o_t3.ints o_t5.ints o_t3.small).mono ?_
  rintro e w9 ⟨rfl, b9⟩
  have B9 := B8.trans (b9.mono B8.size)
  have S9 := b9.size
  have o_w0_ := o_w0.below b9
  clear o_w0
  have o_w0 := o_w0_
  clear o_w0_
  have o_t3_ := o_t3.below b9
  clear o_t3
  have o_t3 := o_t3_
  clear o_t3_
  have o_t4_ := o_t4.below b9
  clear o_t4
  have o_t4 := o_t4_
  clear o_t4_
  have o_g0_ := o_g0.below b9
  clear o_g0
  have o_g0 := o_g0_
  clear o_g0_
  have o_t5_ := o_t5.below b9
  clear o_t5
  have o_t5 := o_t5_
  clear o_t5_
  clear b9
  have Z8 := Lib.hid B8
  clear B8 Z8
  clear o_t5
  go_wp2_with fail
  refine (toIntS_law _ _ _ _ _ (r1.below B9) (by omega)).mono ?_
  rintro e w10 ⟨A_t6, c_t6, rfl, o_t6, b10⟩
  have B10 := B9.trans (b10.mono B9.size)
  have S10 := b10.size
  have o_w0_ := o_w0.below b10
  clear o_w0
  have o_w0 := o_w0_
  clear o_w0_
  have o_t3_ := o_t3.below b10
  clear o_t3
  have o_t3 := o_t3_
  clear o_t3_
  have o_t4_ := o_t4.below b10
  clear o_t4
  have o_t4 := o_t4_
  clear o_t4_
  have o_g0_ := o_g0.below b10
  clear o_g0
  have o_g0 := o_g0_
  clear o_g0_
  clear b10
  have Z9 := Lib.hid B9
  clear B9 Z9
  go_wp2_with fail
  refine (eqIntS_law _ _ _ _ _ _ _ o_t4.ints o_t6.ints o_t4.small).mono ?_
  rintro e w11 ⟨rfl, b11⟩
  have B11 := B10.trans (b11.mono B10.size)
  have S11 := b11.size
  have o_w0_ := o_w0.below b11
  clear o_w0
  have o_w0 := o_w0_
  clear o_w0_
  have o_t3_ := o_t3.below b11
  clear o_t3
  have o_t3 := o_t3_
  clear o_t3_
  have o_t4_ := o_t4.below b11
  clear o_t4
  have o_t4 := o_t4_
  clear o_t4_
  have o_g0_ := o_g0.below b11
  clear o_g0
  have o_g0 := o_g0_
  clear o_g0_
  have o_t6_ := o_t6.below b11
  clear o_t6
  have o_t6 := o_t6_
  clear o_t6_
  clear b11
  have Z10 := Lib.hid B10
  clear B10 Z10
  clear o_t6
  have s_w0 := o_w0.small
  have s_t3 := o_t3.small
  have s_t4 := o_t4.small
  have s_g0 := o_g0.small
  have o_t3_ := o_t3
  clear o_t3
  go_wp2_with fail
  refine (markIntS_law _ _ _ _ _ _ _ _ o_t3_ (by omega) (by omega)).mono ?_
  rintro e w12 ⟨rfl, o_t3, b12⟩
  have B12 := b12.below B11 (by omega) B11.size
  have S12 := b12.size
  have o_w0_ := o_w0.chg b12 (by omega)
  clear o_w0
  have o_w0 := o_w0_
  clear o_w0_
  have o_t4_ := o_t4.chg b12 (by omega)
  clear o_t4
  have o_t4 := o_t4_
  clear o_t4_
  have o_g0_ := o_g0.chg b12 (by omega)
  clear o_g0
  have o_g0 := o_g0_
  clear o_g0_
  clear b12
  have Z11 := Lib.hid B11
  clear B11 Z11
  clear o_t3_
  have o_t4_ := o_t4
  clear o_t4
  go_wp2_with fail
  refine (markIntS_law _ _ _ _ _ _ _ _ o_t4_ (by omega) (by omega)).mono ?_
  rintro e w13 ⟨rfl, o_t4, b13⟩
  have B13 := b13.below B12 (by omega) B12.size
  have S13 := b13.size
  have o_w0_ := o_w0.chg b13 (by omega)
  clear o_w0
  have o_w0 := o_w0_
  clear o_w0_
  have o_t3_ := o_t3.chg b13 (by omega)
  clear o_t3
  have o_t3 := o_t3_
  clear o_t3_
  have o_g0_ := o_g0.chg b13 (by omega)
  clear o_g0
  have o_g0 := o_g0_
  clear o_g0_
  clear b13
  have Z12 := Lib.hid B12
  clear B12 Z12
  clear o_t4_
  go_wp2_with fail
  refine (eqIntS_law _ _ _ _ _ _ _ o_g0.ints o_w0.ints o_g0.small).mono ?_
  rintro e w14 ⟨rfl, b14⟩
  have B14 := B13.trans (b14.mono B13.size)
  have S14 := b14.size
  have o_w0_ := o_w0.below b14
  clear o_w0
  have o_w0 := o_w0_
  clear o_w0_
  have o_t3_ := o_t3.below b14
  clear o_t3
  have o_t3 := o_t3_
  clear o_t3_
  have o_t4_ := o_t4.below b14
  clear o_t4
  have o_t4 := o_t4_
  clear o_t4_
  have o_g0_ := o_g0.below b14
  clear o_g0
  have o_g0 := o_g0_
  clear o_g0_
  clear b14
  have Z13 := Lib.hid B13
  clear B13 Z13
  have o_g0_ := o_g0
  clear o_g0
  go_wp2_with fail
  refine (markIntS_law _ _ _ _ _ _ _ _ o_g0_ (by omega) (by omega)).mono ?_
  rintro e w15 ⟨rfl, o_g0, b15⟩
  have B15 := b15.below B14 (by omega) B14.size
  have S15 := b15.size
  have o_w0_ := o_w0.chg b15 (by omega)
  clear o_w0
  have o_w0 := o_w0_
  clear o_w0_
  have o_t3_ := o_t3.chg b15 (by omega)
  clear o_t3
  have o_t3 := o_t3_
  clear o_t3_
  have o_t4_ := o_t4.chg b15 (by omega)
  clear o_t4
  have o_t4 := o_t4_
  clear o_t4_
  clear b15
  have Z14 := Lib.hid B14
  clear B14 Z14
  clear o_g0_
  go_wp2_with fail
  refine (heldIntS_law _ _ _ _ _ o_g0.ints o_g0.small (by omega) (by omega)).mono ?_
  rintro e w16 ⟨rfl, b16⟩
  have B16 := B15.trans (b16.mono B15.size)
  have S16 := b16.size
  have o_w0_ := o_w0.below b16
  clear o_w0
  have o_w0 := o_w0_
  clear o_w0_
  have o_t3_ := o_t3.below b16
  clear o_t3
  have o_t3 := o_t3_
  clear o_t3_
  have o_t4_ := o_t4.below b16
  clear o_t4
  have o_t4 := o_t4_
  clear o_t4_
  have o_g0_ := o_g0.below b16
  clear o_g0
  have o_g0 := o_g0_
  clear o_g0_
  clear b16
  have Z15 := Lib.hid B15
  clear B15 Z15
  go_wp2_with fail
  refine (toIntS_law _ _ _ _ _ (r0.below B16) (by omega)).mono ?_
  rintro e w17 ⟨A_t7, c_t7, rfl, o_t7, b17⟩
  have B17 := B16.trans (b17.mono B16.size)
  have S17 := b17.size
  have o_w0_ := o_w0.below b17
  clear o_w0
  have o_w0 := o_w0_
  clear o_w0_
  have o_t3_ := o_t3.below b17
  clear o_t3
  have o_t3 := o_t3_
  clear o_t3_
  have o_t4_ := o_t4.below b17
  clear o_t4
  have o_t4 := o_t4_
  clear o_t4_
  have o_g0_ := o_g0.below b17
  clear o_g0
  have o_g0 := o_g0_
  clear o_g0_
  clear b17
  have Z16 := Lib.hid B16
  clear B16 Z16
  go_wp2_with fail
  refine (toIntS_law _ _ _ _ _ (r1.below B17) (by omega)).mono ?_
  rintro e w18 ⟨A_t8, c_t8, rfl, o_t8, b18⟩
  have B18 := B17.trans (b18.mono B17.size)
  have S18 := b18.size
  have o_w0_ := o_w0.below b18
  clear o_w0
  have o_w0 := o_w0_
  clear o_w0_
  have o_t3_ := o_t3.below b18
  clear o_t3
  have o_t3 := o_t3_
  clear o_t3_
  have o_t4_ := o_t4.below b18
  clear o_t4
  have o_t4 := o_t4_
  clear o_t4_
  have o_g0_ := o_g0.below b18
  clear o_g0
  have o_g0 := o_g0_
  clear o_g0_
  have o_t7_ := o_t7.below b18
  clear o_t7
  have o_t7 := o_t7_
  clear o_t7_
  clear b18
  have Z17 := Lib.hid B17
  clear B17 Z17
  go_wp2_with fail
  refine (implSealParts_law _ _ _ _ _ _ _ _ _ o_t7.ints o_t7.small o_t8.ints o_t8.small).mono ?_
  rintro e w19 ⟨A_h0, c_h0, rfl, o_h0, b19⟩
  have B19 := B18.trans (b19.mono B18.size)
  have S19 := b19.size
  have o_w0_ := o_w0.below b19
  clear o_w0
  have o_w0 := o_w0_
  clear o_w0_
  have o_t3_ := o_t3.below b19
  clear o_t3
  have o_t3 := o_t3_
  clear o_t3_
  have o_t4_ := o_t4.below b19
  clear o_t4
  have o_t4 := o_t4_
  clear o_t4_
  have o_g0_ := o_g0.below b19
  clear o_g0
  have o_g0 := o_g0_
  clear o_g0_
  have o_t7_ := o_t7.below b19
  clear o_t7
  have o_t7 := o_t7_
  clear o_t7_
  have o_t8_ := o_t8.below b19
  clear o_t8
  have o_t8 := o_t8_
  clear o_t8_
  clear b19
  have Z18 := Lib.hid B18
  clear B18 Z18
  clear o_t7
  clear o_t8
  go_wp2_with fail
  refine (eqIntS_law _ _ _ _ _ _ _ o_h0.ints o_w0.ints o_h0.small).mono ?_
  rintro e w20 ⟨rfl, b20⟩
  have B20 := B19.trans (b20.mono B19.size)
  have S20 := b20.size
  have o_w0_ := o_w0.below b20
  clear o_w0
  have o_w0 := o_w0_
  clear o_w0_
  have o_t3_ := o_t3.below b20
  clear o_t3
  have o_t3 := o_t3_
  clear o_t3_
  have o_t4_ := o_t4.below b20
  clear o_t4
  have o_t4 := o_t4_
  clear o_t4_
  have o_g0_ := o_g0.below b20
  clear o_g0
  have o_g0 := o_g0_
  clear o_g0_
  have o_h0_ := o_h0.below b20
  clear o_h0
  have o_h0 := o_h0_
  clear o_h0_
  clear b20
  have Z19 := Lib.hid B19
  clear B19 Z19
  go_wp2_with fail
  refine (heldIntS_law _ _ _ _ _ o_g0.ints o_g0.small (by omega) (by omega)).mono ?_
  rintro e w21 ⟨rfl, b21⟩
  have B21 := B20.trans (b21.mono B20.size)
  have S21 := b21.size
  have o_w0_ := o_w0.below b21
  clear o_w0
  have o_w0 := o_w0_
  clear o_w0_
  have o_t3_ := o_t3.below b21
  clear o_t3
  have o_t3 := o_t3_
  clear o_t3_
  have o_t4_ := o_t4.below b21
  clear o_t4
  have o_t4 := o_t4_
  clear o_t4_
  have o_g0_ := o_g0.below b21
  clear o_g0
  have o_g0 := o_g0_
  clear o_g0_
  have o_h0_ := o_h0.below b21
  clear o_h0
  have o_h0 := o_h0_
  clear o_h0_
  clear b21
  have Z20 := Lib.hid B20
  clear B20 Z20
  go_wp2
  go_ret
  exact ⟨rfl, B21⟩
end Go.Proofs.Ytmblmlajmfpcgaa
