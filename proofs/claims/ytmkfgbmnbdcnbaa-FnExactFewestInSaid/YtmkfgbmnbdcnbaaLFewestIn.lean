/- The walk of the law FnExactFewestIn, printed by lawgen.py off the law's own text. -/
import Derived.Test.YtmkfgbmnbdcnbaaFewest
namespace Go.Proofs.Ytmkfgbmnbdcnbaa
open Go.RowKit

set_option maxRecDepth 100000 in
set_option maxHeartbeats 4000000 in
theorem walk_FnExactFewestIn (A0 : Option Addr) (n0 c0 : Nat) (z0 : List Int) (w : World) (r0 : Ints w A0 n0 z0) (m0 : n0 ≤ maxLen) (_f0 : ∀ x ∈ z0, (Lit.int .i64 x).wf = true) :
    Calls Try.prog 10 #[.slice A0 n0 c0] w fun e w' => e = .returned (.bool true) ∧ Below w.heap.size w w' := by
  unfold maxLen at m0
  rcases Nat.lt_or_ge 1048576 n0 with g0 | g0
  · go_enter Try.func10, Try.ntmps10
    go_wp2
    go_ret
    exact ⟨rfl, (Below.refl w.heap.size w)⟩
  go_enter Try.func10, Try.ntmps10
  have B0 : Below w.heap.size w w := Below.refl _ _
  go_wp2_with fail
  refine (toIntS_law _ _ _ _ _ (r0.below B0) (by omega)).mono ?_
  rintro e w1 ⟨A_t1, c_t1, rfl, o_t1, b1⟩
  have B1 := B0.trans (b1.mono B0.size)
  have S1 := b1.size
  clear b1
  have Z0 := Lib.hid B0
  clear B0 Z0
  go_wp2_with fail
  refine (specFewestIn_law _ _ _ _ _ o_t1.ints o_t1.small).mono ?_
  rintro e w2 ⟨rfl, b2⟩
  have B2 := B1.trans (b2.mono B1.size)
  have S2 := b2.size
  replace o_t1 := o_t1.below b2
  clear b2
  have Z1 := Lib.hid B1
  clear B1 Z1
  clear o_t1
  go_wp2_with fail
  refine (toIntS_law _ _ _ _ _ (r0.below B2) (by omega)).mono ?_
  rintro e w3 ⟨A_t2, c_t2, rfl, o_t2, b3⟩
  have B3 := B2.trans (b3.mono B2.size)
  have S3 := b3.size
  clear b3
  have Z2 := Lib.hid B2
  clear B2 Z2
  go_wp2_with fail
  refine (implFewestIn_law _ _ _ _ _ o_t2.ints o_t2.small).mono ?_
  rintro e w4 ⟨rfl, b4⟩
  have B4 := B3.trans (b4.mono B3.size)
  have S4 := b4.size
  replace o_t2 := o_t2.below b4
  clear b4
  have Z3 := Lib.hid B3
  clear B3 Z3
  go_wp2_with fail
  refine (toIntS_law _ _ _ _ _ (r0.below B4) (by omega)).mono ?_
  rintro e w5 ⟨A_t3, c_t3, rfl, o_t3, b5⟩
  have B5 := B4.trans (b5.mono B4.size)
  have S5 := b5.size
  replace o_t2 := o_t2.below b5
  clear b5
  have Z4 := Lib.hid B4
  clear B4 Z4
  go_wp2_with fail
  refine (eqIntS_law _ _ _ _ _ _ _ o_t2.ints o_t3.ints o_t2.small).mono ?_
  rintro e w6 ⟨rfl, b6⟩
  have B6 := B5.trans (b6.mono B5.size)
  have S6 := b6.size
  replace o_t2 := o_t2.below b6
  replace o_t3 := o_t3.below b6
  clear b6
  have Z5 := Lib.hid B5
  clear B5 Z5
  clear o_t3
  go_wp2
  go_ret
  exact ⟨rfl, B6⟩
end Go.Proofs.Ytmkfgbmnbdcnbaa
