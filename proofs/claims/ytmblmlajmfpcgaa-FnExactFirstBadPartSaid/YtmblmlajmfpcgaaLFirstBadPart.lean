/- The walk of the law FnExactFirstBadPart, printed by lawgen.py off the law's own text. -/
import Derived.Test.YtmblmlajmfpcgaaSealLaws
namespace Go.Proofs.Ytmblmlajmfpcgaa
open Go.RowKit

set_option maxHeartbeats 2000000 in
theorem walk_FnExactFirstBadPart (A0 : Option Addr) (n0 c0 : Nat) (z0 : List Int) (A1 : Option Addr) (n1 c1 : Nat) (z1 : List Int) (A2 : Option Addr) (n2 c2 : Nat) (z2 : List Int) (w : World) (r0 : Ints w A0 n0 z0) (m0 : n0 ≤ maxLen) (_f0 : ∀ x ∈ z0, (Lit.int .i64 x).wf = true) (r1 : Ints w A1 n1 z1) (m1 : n1 ≤ maxLen) (_f1 : ∀ x ∈ z1, (Lit.int .i64 x).wf = true) (r2 : Ints w A2 n2 z2) (m2 : n2 ≤ maxLen) (_f2 : ∀ x ∈ z2, (Lit.int .i64 x).wf = true) :
    Calls Try.prog 13 #[.slice A0 n0 c0, .slice A1 n1 c1, .slice A2 n2 c2] w fun e w' => e = .returned (.bool true) ∧ Below w.heap.size w w' := by
  unfold maxLen at m0
  unfold maxLen at m1
  unfold maxLen at m2
  rcases Nat.lt_or_ge 1048576 n0 with g0 | g0
  · go_enter Try.func13, Try.ntmps13
    go_wp2
    go_ret
    exact ⟨rfl, Below.refl _ _⟩
  rcases Nat.lt_or_ge 1048576 n1 with g1 | g1
  · go_enter Try.func13, Try.ntmps13
    go_wp2
    go_ret
    exact ⟨rfl, Below.refl _ _⟩
  rcases Nat.lt_or_ge 1048576 n2 with g2 | g2
  · go_enter Try.func13, Try.ntmps13
    go_wp2
    go_ret
    exact ⟨rfl, Below.refl _ _⟩
  go_enter Try.func13, Try.ntmps13
  go_wp2_with fail
  have B0 : Below w.heap.size w w := Below.refl _ _
  refine (toIntS_law _ _ _ _ _ (r0.below B0) (by omega)).mono ?_
  rintro e w1 ⟨A_t1, c_t1, rfl, o_t1, b1⟩
  have B1 := B0.trans (b1.mono B0.size)
  have S1 := b1.size
  clear b1
  have Z0 := Lib.hid B0
  clear B0 Z0
  go_wp2_with fail
  refine (toIntS_law _ _ _ _ _ (r1.below B1) (by omega)).mono ?_
  rintro e w2 ⟨A_t2, c_t2, rfl, o_t2, b2⟩
  have B2 := B1.trans (b2.mono B1.size)
  have S2 := b2.size
  have o_t1_ := o_t1.below b2
  clear o_t1
  have o_t1 := o_t1_
  clear o_t1_
  clear b2
  have Z1 := Lib.hid B1
  clear B1 Z1
  go_wp2_with fail
  refine (toIntS_law _ _ _ _ _ (r2.below B2) (by omega)).mono ?_
  rintro e w3 ⟨A_t3, c_t3, rfl, o_t3, b3⟩
  have B3 := B2.trans (b3.mono B2.size)
  have S3 := b3.size
  have o_t1_ := o_t1.below b3
  clear o_t1
  have o_t1 := o_t1_
  clear o_t1_
  have o_t2_ := o_t2.below b3
  clear o_t2
  have o_t2 := o_t2_
  clear o_t2_
  clear b3
  have Z2 := Lib.hid B2
  clear B2 Z2
  go_wp2_with fail
  refine (specFirstBadPart_law _ _ _ _ _ _ _ _ _ _ _ _ _ o_t1.ints o_t1.small o_t2.ints o_t2.small o_t3.ints o_t3.small).mono ?_
  rintro e w4 ⟨rfl, b4⟩
  have B4 := B3.trans (b4.mono B3.size)
  have S4 := b4.size
  have o_t1_ := o_t1.below b4
  clear o_t1
  have o_t1 := o_t1_
  clear o_t1_
  have o_t2_ := o_t2.below b4
  clear o_t2
  have o_t2 := o_t2_
  clear o_t2_
  have o_t3_ := o_t3.below b4
  clear o_t3
  have o_t3 := o_t3_
  clear o_t3_
  clear b4
  have Z3 := Lib.hid B3
  clear B3 Z3
  clear o_t1
  clear o_t2
  clear o_t3
  go_wp2_with fail
  refine (toIntS_law _ _ _ _ _ (r0.below B4) (by omega)).mono ?_
  rintro e w5 ⟨A_t4, c_t4, rfl, o_t4, b5⟩
  have B5 := B4.trans (b5.mono B4.size)
  have S5 := b5.size
  clear b5
  have Z4 := Lib.hid B4
  clear B4 Z4
  go_wp2_with fail
  refine (toIntS_law _ _ _ _ _ (r1.below B5) (by omega)).mono ?_
  rintro e w6 ⟨A_t5, c_t5, rfl, o_t5, b6⟩
  have B6 := B5.trans (b6.mono B5.size)
  have S6 := b6.size
  have o_t4_ := o_t4.below b6
  clear o_t4
  have o_t4 := o_t4_
  clear o_t4_
  clear b6
  have Z5 := Lib.hid B5
  clear B5 Z5
  go_wp2_with fail
  refine (toIntS_law _ _ _ _ _ (r2.below B6) (by omega)).mono ?_
  rintro e w7 ⟨A_t6, c_t6, rfl, o_t6, b7⟩
  have B7 := B6.trans (b7.mono B6.size)
  have S7 := b7.size
  have o_t4_ := o_t4.below b7
  clear o_t4
  have o_t4 := o_t4_
  clear o_t4_
  have o_t5_ := o_t5.below b7
  clear o_t5
  have o_t5 := o_t5_
  clear o_t5_
  clear b7
  have Z6 := Lib.hid B6
  clear B6 Z6
  go_wp2_with fail
  refine (implFirstBadPart_law _ _ _ _ _ _ _ _ _ _ _ _ _ o_t4.ints o_t4.small o_t5.ints o_t5.small o_t6.ints o_t6.small).mono ?_
  rintro e w8 ⟨rfl, b8⟩
  have B8 := B7.trans (b8.mono B7.size)
  have S8 := b8.size
  have o_t4_ := o_t4.below b8
  clear o_t4
  have o_t4 := o_t4_
  clear o_t4_
  have o_t5_ := o_t5.below b8
  clear o_t5
  have o_t5 := o_t5_
  clear o_t5_
  have o_t6_ := o_t6.below b8
  clear o_t6
  have o_t6 := o_t6_
  clear o_t6_
  clear b8
  have Z7 := Lib.hid B7
  clear B7 Z7
  go_wp2_with fail
  refine (toIntS_law _ _ _ _ _ (r0.below B8) (by omega)).mono ?_
  rintro e w9 ⟨A_t7, c_t7, rfl, o_t7, b9⟩
  have B9 := B8.trans (b9.mono B8.size)
  have S9 := b9.size
  have o_t4_ := o_t4.below b9
  clear o_t4
  have o_t4 := o_t4_
  clear o_t4_
  have o_t5_ := o_t5.below b9
  clear o_t5
  have o_t5 := o_t5_
  clear o_t5_
  have o_t6_ := o_t6.below b9
  clear o_t6
  have o_t6 := o_t6_
  clear o_t6_
  clear b9
  have Z8 := Lib.hid B8
  clear B8 Z8
  go_wp2_with fail
  refine (eqIntS_law _ _ _ _ _ _ _ o_t4.ints o_t7.ints o_t4.small).mono ?_
  rintro e w10 ⟨rfl, b10⟩
  have B10 := B9.trans (b10.mono B9.size)
  have S10 := b10.size
  have o_t4_ := o_t4.below b10
  clear o_t4
  have o_t4 := o_t4_
  clear o_t4_
  have o_t5_ := o_t5.below b10
  clear o_t5
  have o_t5 := o_t5_
  clear o_t5_
  have o_t6_ := o_t6.below b10
  clear o_t6
  have o_t6 := o_t6_
  clear o_t6_
  have o_t7_ := o_t7.below b10
  clear o_t7
  have o_t7 := o_t7_
  clear o_t7_
  clear b10
  have Z9 := Lib.hid B9
  clear B9 Z9
  clear o_t7
  go_wp2_with fail
  refine (toIntS_law _ _ _ _ _ (r1.below B10) (by omega)).mono ?_
  rintro e w11 ⟨A_t8, c_t8, rfl, o_t8, b11⟩
  have B11 := B10.trans (b11.mono B10.size)
  have S11 := b11.size
  have o_t4_ := o_t4.below b11
  clear o_t4
  have o_t4 := o_t4_
  clear o_t4_
  have o_t5_ := o_t5.below b11
  clear o_t5
  have o_t5 := o_t5_
  clear o_t5_
  have o_t6_ := o_t6.below b11
  clear o_t6
  have o_t6 := o_t6_
  clear o_t6_
  clear b11
  have Z10 := Lib.hid B10
  clear B10 Z10
  go_wp2_with fail
  refine (eqIntS_law _ _ _ _ _ _ _ o_t5.ints o_t8.ints o_t5.small).mono ?_
  rintro e w12 ⟨rfl, b12⟩
  have B12 := B11.trans (b12.mono B11.size)
  have S12 := b12.size
  have o_t4_ := o_t4.below b12
  clear o_t4
  have o_t4 := o_t4_
  clear o_t4_
  have o_t5_ := o_t5.below b12
  clear o_t5
  have o_t5 := o_t5_
  clear o_t5_
  have o_t6_ := o_t6.below b12
  clear o_t6
  have o_t6 := o_t6_
  clear o_t6_
  have o_t8_ := o_t8.below b12
  clear o_t8
  have o_t8 := o_t8_
  clear o_t8_
  clear b12
  have Z11 := Lib.hid B11
  clear B11 Z11
  clear o_t8
  go_wp2_with fail
  refine (toIntS_law _ _ _ _ _ (r2.below B12) (by omega)).mono ?_
  rintro e w13 ⟨A_t9, c_t9, rfl, o_t9, b13⟩
  have B13 := B12.trans (b13.mono B12.size)
  have S13 := b13.size
  have o_t4_ := o_t4.below b13
  clear o_t4
  have o_t4 := o_t4_
  clear o_t4_
  have o_t5_ := o_t5.below b13
  clear o_t5
  have o_t5 := o_t5_
  clear o_t5_
  have o_t6_ := o_t6.below b13
  clear o_t6
  have o_t6 := o_t6_
  clear o_t6_
  clear b13
  have Z12 := Lib.hid B12
  clear B12 Z12
  go_wp2_with fail
  refine (eqIntS_law _ _ _ _ _ _ _ o_t6.ints o_t9.ints o_t6.small).mono ?_
  rintro e w14 ⟨rfl, b14⟩
  have B14 := B13.trans (b14.mono B13.size)
  have S14 := b14.size
  have o_t4_ := o_t4.below b14
  clear o_t4
  have o_t4 := o_t4_
  clear o_t4_
  have o_t5_ := o_t5.below b14
  clear o_t5
  have o_t5 := o_t5_
  clear o_t5_
  have o_t6_ := o_t6.below b14
  clear o_t6
  have o_t6 := o_t6_
  clear o_t6_
  have o_t9_ := o_t9.below b14
  clear o_t9
  have o_t9 := o_t9_
  clear o_t9_
  clear b14
  have Z13 := Lib.hid B13
  clear B13 Z13
  clear o_t9
  go_wp2
  go_ret
  exact ⟨rfl, B14⟩
end Go.Proofs.Ytmblmlajmfpcgaa
