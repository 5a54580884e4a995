/- The walk of the law FnExactFirstBadLink, printed by lawgen.py off the law's own text. -/
import Derived.Test.YtmblmlajmfpcgaaSealLaws
namespace Go.Proofs.Ytmblmlajmfpcgaa
open Go.RowKit

set_option maxHeartbeats 2000000 in
theorem walk_FnExactFirstBadLink (A0 : Option Addr) (n0 c0 : Nat) (z0 : List Int) (A1 : Option Addr) (n1 c1 : Nat) (z1 : List Int) (w : World) (r0 : Ints w A0 n0 z0) (m0 : n0 ≤ maxLen) (_f0 : ∀ x ∈ z0, (Lit.int .i64 x).wf = true) (r1 : Ints w A1 n1 z1) (m1 : n1 ≤ maxLen) (_f1 : ∀ x ∈ z1, (Lit.int .i64 x).wf = true) :
    Calls Try.prog 11 #[.slice A0 n0 c0, .slice A1 n1 c1] w fun e w' => e = .returned (.bool true) ∧ Below w.heap.size w w' := by
  unfold maxLen at m0
  unfold maxLen at m1
  rcases Nat.lt_or_ge 1048576 n0 with g0 | g0
  · go_enter Try.func11, Try.ntmps11
    go_wp2
    go_ret
    exact ⟨rfl, Below.refl _ _⟩
  rcases Nat.lt_or_ge 1048576 n1 with g1 | g1
  · go_enter Try.func11, Try.ntmps11
    go_wp2
    go_ret
    exact ⟨rfl, Below.refl _ _⟩
  go_enter Try.func11, Try.ntmps11
  go_wp2_with fail
  have B0 : Below w.heap.size w w := Below.refl _ _
  refine (toIntS_law _ _ _ _ _ (r0.below B0) (by omega)).mono ?_
  rintro e w1 ⟨A_t1, c_t1, rfl, o_t1, b1⟩
  have B1 := B0.trans (b1.mono B0.size)
  have S1 := b1.size
  clear b1
  have Z0 := Lib.hid B0
  clear B0 Z0
  go_wp2_with fail
  refine (toIntS_law _ _ _ _ _ (r1.below B1) (by omega)).mono ?_
  rintro e w2 ⟨A_t2, c_t2, rfl, o_t2, b2⟩
  have B2 := B1.trans (b2.mono B1.size)
  have S2 := b2.size
  have o_t1_ := o_t1.below b2
  clear o_t1
  have o_t1 := o_t1_
  clear o_t1_
  clear b2
  have Z1 := Lib.hid B1
  clear B1 Z1
  go_wp2_with fail
  refine (specFirstBadLink_law _ _ _ _ _ _ _ _ _ o_t1.ints o_t1.small o_t2.ints o_t2.small).mono ?_
  rintro e w3 ⟨rfl, b3⟩
  have B3 := B2.trans (b3.mono B2.size)
  have S3 := b3.size
  have o_t1_ := o_t1.below b3
  clear o_t1
  have o_t1 := o_t1_
  clear o_t1_
  have o_t2_ := o_t2.below b3
  clear o_t2
  have o_t2 := o_t2_
  clear o_t2_
  clear b3
  have Z2 := Lib.hid B2
  clear B2 Z2
  clear o_t1
  clear o_t2
  go_wp2_with fail
  refine (toIntS_law _ _ _ _ _ (r0.below B3) (by omega)).mono ?_
  rintro e w4 ⟨A_t3, c_t3, rfl, o_t3, b4⟩
  have B4 := B3.trans (b4.mono B3.size)
  have S4 := b4.size
  clear b4
  have Z3 := Lib.hid B3
  clear B3 Z3
  go_wp2_with fail
  refine (toIntS_law _ _ _ _ _ (r1.below B4) (by omega)).mono ?_
  rintro e w5 ⟨A_t4, c_t4, rfl, o_t4, b5⟩
  have B5 := B4.trans (b5.mono B4.size)
  have S5 := b5.size
  have o_t3_ := o_t3.below b5
  clear o_t3
  have o_t3 := o_t3_
  clear o_t3_
  clear b5
  have Z4 := Lib.hid B4
  clear B4 Z4
  go_wp2_with fail
  refine (implFirstBadLink_law _ _ _ _ _ _ _ _ _ o_t3.ints o_t3.small o_t4.ints o_t4.small).mono ?_
  rintro e w6 ⟨rfl, b6⟩
  have B6 := B5.trans (b6.mono B5.size)
  have S6 := b6.size
  have o_t3_ := o_t3.below b6
  clear o_t3
  have o_t3 := o_t3_
  clear o_t3_
  have o_t4_ := o_t4.below b6
  clear o_t4
  have o_t4 := o_t4_
  clear o_t4_
  clear b6
  have Z5 := Lib.hid B5
  clear B5 Z5
  go_wp2_with fail
  refine (toIntS_law _ _ _ _ _ (r0.below B6) (by omega)).mono ?_
  rintro e w7 ⟨A_t5, c_t5, rfl, o_t5, b7⟩
  have B7 := B6.trans (b7.mono B6.size)
  have S7 := b7.size
  have o_t3_ := o_t3.below b7
  clear o_t3
  have o_t3 := o_t3_
  clear o_t3_
  have o_t4_ := o_t4.below b7
  clear o_t4
  have o_t4 := o_t4_
  clear o_t4_
  clear b7
  have Z6 := Lib.hid B6
  clear B6 Z6
  go_wp2_with fail
  refine (eqIntS_law _ _ _ _ _ _ _ o_t3.ints o_t5.ints o_t3.small).mono ?_
  rintro e w8 ⟨rfl, b8⟩
  have B8 := B7.trans (b8.mono B7.size)
  have S8 := b8.size
  have o_t3_ := o_t3.below b8
  clear o_t3
  have o_t3 := o_t3_
  clear o_t3_
  have o_t4_ := o_t4.below b8
  clear o_t4
  have o_t4 := o_t4_
  clear o_t4_
  have o_t5_ := o_t5.below b8
  clear o_t5
  have o_t5 := o_t5_
  clear o_t5_
  clear b8
  have Z7 := Lib.hid B7
  clear B7 Z7
  clear o_t5
  go_wp2_with fail
  refine (toIntS_law _ _ _ _ _ (r1.below B8) (by omega)).mono ?_
  rintro e w9 ⟨A_t6, c_t6, rfl, o_t6, b9⟩
  have B9 := B8.trans (b9.mono B8.size)
  have S9 := b9.size
  have o_t3_ := o_t3.below b9
  clear o_t3
  have o_t3 := o_t3_
  clear o_t3_
  have o_t4_ := o_t4.below b9
  clear o_t4
  have o_t4 := o_t4_
  clear o_t4_
  clear b9
  have Z8 := Lib.hid B8
  clear B8 Z8
  go_wp2_with fail
  refine (eqIntS_law _ _ _ _ _ _ _ o_t4.ints o_t6.ints o_t4.small).mono ?_
  rintro e w10 ⟨rfl, b10⟩
  have B10 := B9.trans (b10.mono B9.size)
  have S10 := b10.size
  have o_t3_ := o_t3.below b10
  clear o_t3
  have o_t3 := o_t3_
  clear o_t3_
  have o_t4_ := o_t4.below b10
  clear o_t4
  have o_t4 := o_t4_
  clear o_t4_
  have o_t6_ := o_t6.below b10
  clear o_t6
  have o_t6 := o_t6_
  clear o_t6_
  clear b10
  have Z9 := Lib.hid B9
  clear B9 Z9
  clear o_t6
  go_wp2
  go_ret
  exact ⟨rfl, B10⟩
end Go.Proofs.Ytmblmlajmfpcgaa
