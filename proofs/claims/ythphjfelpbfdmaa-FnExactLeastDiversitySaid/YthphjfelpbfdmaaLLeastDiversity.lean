/- The walk of the law FnExactLeastDiversity, printed by lawgen2.py off the law's own text. -/
import Derived.Test.YthphjfelpbfdmaaDiv
namespace Go.Proofs.Ythphjfelpbfdmaa
open Go.RowKit

set_option maxRecDepth 100000 in
set_option maxHeartbeats 4000000 in
theorem walk_FnExactLeastDiversity (A0 : Option Addr) (n0 c0 : Nat) (z0 : List (ByteArray × Int)) (A1 : Option Addr) (n1 c1 : Nat) (z1 : List RecD) (A2 : Option Addr) (n2 c2 : Nat) (z2 : List Int) (a3 : Int) (w : World) (r0 : VarsR w A0 n0 z0) (m0 : n0 ≤ maxLen) (s0 : ∀ j, j < n0 → (vN z0 j).size ≤ maxLen) (r1 : RecsR w A1 n1 z1) (m1 : n1 ≤ maxLen) (s1 : ∀ j, j < n1 → (rV z1 j).length ≤ maxLen) (r2 : Ints w A2 n2 z2) (m2 : n2 ≤ maxLen) (_f2 : ∀ x ∈ z2, (Lit.int .i64 x).wf = true) (_w3 : (Lit.int .i64 a3).wf = true) :
    Calls Try.prog 8 #[.slice A0 n0 c0, .slice A1 n1 c1, .slice A2 n2 c2, .int .i64 a3] w fun e w' => e = .returned (.bool true) ∧ Below w.heap.size w w' := by
  unfold maxLen at m0 s0
  unfold maxLen at m1 s1
  unfold maxLen at m2
  rcases Nat.lt_or_ge 1048576 n2 with g2 | g2
  · go_enter Try.func8, Try.ntmps8
    go_wp2
    go_ret
    exact ⟨rfl, Below.refl _ _⟩
  go_enter Try.func8, Try.ntmps8
  have B0 : Below w.heap.size w w := Below.refl _ _
  go_wp2_with fail
  refine (szVariableS_any _ n0 _ _ z0 _ (r0.below B0) s0 m0 (by omega) (by omega)).mono ?_
  rintro e w1 ⟨⟨l1, rfl, p1, q1, k1⟩, b1⟩
  have B1 := B0.trans (b1.mono B0.size)
  have S1 := b1.size
  clear b1
  have Z0 := Lib.hid B0
  clear B0 Z0
  by_cases g_1 : l1 < 0
  · go_wp2
    go_ret
    exact ⟨rfl, B1⟩
  replace k1 := k1 (by omega)
  have e1 := k1.1
  have t0 : Hid (∀ j, j < n0 → (vN z0 j).size ≤ 1099511627776) := Lib.hid fun j hj => by have := k1.2 j hj; omega
  have y0 := Lib.hid r0.1
  clear k1 s0 m0
  have h0 : n0 ≤ 1048576 := by omega
  go_wp2_with fail
  refine (szRecordS_any _ n1 _ _ z1 _ (r1.below B1) s1 m1 (by omega) (by omega)).mono ?_
  rintro e w2 ⟨⟨l2, rfl, p2, q2, k2⟩, b2⟩
  have B2 := B1.trans (b2.mono B1.size)
  have S2 := b2.size
  clear b2
  have Z1 := Lib.hid B1
  clear B1 Z1
  by_cases g_2 : l2 < 0
  · go_wp2
    go_ret
    exact ⟨rfl, B2⟩
  replace k2 := k2 (by omega)
  have e2 := k2.1
  have t1 : Hid (∀ j, j < n1 → (rV z1 j).length ≤ 1099511627776) := Lib.hid fun j hj => by have := k2.2 j hj; omega
  have y1 := Lib.hid r1.1
  have u1 : Hid (∀ j, j < n1 → (rV z1 j).length ≤ 1048576) := Lib.hid fun j hj => by have := k2.2 j hj; omega
  clear k2 s1 m1
  have h1 : n1 ≤ 1048576 := by omega
  go_wp2_with fail
  refine (toVariableS_law _ _ _ z0 _ (r0.below B2) (by omega)).mono ?_
  rintro e w3 ⟨A_t1, c_t1, rfl, o_t1, b3⟩
  have B3 := B2.trans (b3.mono B2.size)
  have S3 := b3.size
  clear b3
  have Z2 := Lib.hid B2
  clear B2 Z2
  go_wp2_with fail
  refine (toRecordS_law _ _ _ z1 _ (r1.below B3) (by omega) t1.out).mono ?_
  rintro e w4 ⟨A_t2, c_t2, rfl, o_t2, b4⟩
  have B4 := B3.trans (b4.mono B3.size)
  have S4 := b4.size
  replace o_t1 := o_t1.below b4
  clear b4
  have Z3 := Lib.hid B3
  clear B3 Z3
  go_wp2_with fail
  refine (toIntS_law _ _ _ _ _ (r2.below B4) (by omega)).mono ?_
  rintro e w5 ⟨A_t3, c_t3, rfl, o_t3, b5⟩
  have B5 := B4.trans (b5.mono B4.size)
  have S5 := b5.size
  replace o_t1 := o_t1.below b5
  replace o_t2 := o_t2.below b5
  clear b5
  have Z4 := Lib.hid B4
  clear B4 Z4
  go_wp2_with fail
  refine (specLeastDiversity_law a3 _ _ _ _ _ _ _ _ _ z0 z1 z2 _ (o_t1.sch t0.out) (o_t2.dat t1.out) o_t3.intR).mono ?_
  rintro e w6 ⟨rfl, b6⟩
  have B6 := B5.trans (b6.mono B5.size)
  have S6 := b6.size
  replace o_t1 := o_t1.below b6
  replace o_t2 := o_t2.below b6
  replace o_t3 := o_t3.below b6
  clear b6
  have Z5 := Lib.hid B5
  clear B5 Z5
  clear o_t1
  clear o_t2
  clear o_t3
  go_wp2_with fail
  refine (toVariableS_law _ _ _ z0 _ (r0.below B6) (by omega)).mono ?_
  rintro e w7 ⟨A_t4, c_t4, rfl, o_t4, b7⟩
  have B7 := B6.trans (b7.mono B6.size)
  have S7 := b7.size
  clear b7
  have Z6 := Lib.hid B6
  clear B6 Z6
  go_wp2_with fail
  refine (toRecordS_law _ _ _ z1 _ (r1.below B7) (by omega) t1.out).mono ?_
  rintro e w8 ⟨A_t5, c_t5, rfl, o_t5, b8⟩
  have B8 := B7.trans (b8.mono B7.size)
  have S8 := b8.size
  replace o_t4 := o_t4.below b8
  clear b8
  have Z7 := Lib.hid B7
  clear B7 Z7
  go_wp2_with fail
  refine (toIntS_law _ _ _ _ _ (r2.below B8) (by omega)).mono ?_
  rintro e w9 ⟨A_t6, c_t6, rfl, o_t6, b9⟩
  have B9 := B8.trans (b9.mono B8.size)
  have S9 := b9.size
  replace o_t4 := o_t4.below b9
  replace o_t5 := o_t5.below b9
  clear b9
  have Z8 := Lib.hid B8
  clear B8 Z8
  go_wp2_with fail
  refine (implLeastDiversity_law a3 _ _ _ _ _ _ _ _ _ z0 z1 z2 _ (o_t4.sch t0.out) (o_t5.dat t1.out) o_t6.intR).mono ?_
  rintro e w10 ⟨rfl, b10⟩
  have B10 := B9.trans (b10.mono B9.size)
  have S10 := b10.size
  replace o_t4 := o_t4.below b10
  replace o_t5 := o_t5.below b10
  replace o_t6 := o_t6.below b10
  clear b10
  have Z9 := Lib.hid B9
  clear B9 Z9
  go_wp2_with fail
  refine (toVariableS_law _ _ _ z0 _ (r0.below B10) (by omega)).mono ?_
  rintro e w11 ⟨A_t7, c_t7, rfl, o_t7, b11⟩
  have B11 := B10.trans (b11.mono B10.size)
  have S11 := b11.size
  replace o_t4 := o_t4.below b11
  replace o_t5 := o_t5.below b11
  replace o_t6 := o_t6.below b11
  clear b11
  have Z10 := Lib.hid B10
  clear B10 Z10
  go_wp2_with fail
  refine (eqVariableS_any _ _ _ _ _ z0 _ o_t4.vars o_t7.vars (by omega)).mono ?_
  rintro e w12 ⟨rfl, b12⟩
  have B12 := B11.trans (b12.mono B11.size)
  have S12 := b12.size
  replace o_t4 := o_t4.below b12
  replace o_t5 := o_t5.below b12
  replace o_t6 := o_t6.below b12
  replace o_t7 := o_t7.below b12
  clear b12
  have Z11 := Lib.hid B11
  clear B11 Z11
  clear o_t7
  go_wp2_with fail
  refine (toRecordS_law _ _ _ z1 _ (r1.below B12) (by omega) t1.out).mono ?_
  rintro e w13 ⟨A_t8, c_t8, rfl, o_t8, b13⟩
  have B13 := B12.trans (b13.mono B12.size)
  have S13 := b13.size
  replace o_t4 := o_t4.below b13
  replace o_t5 := o_t5.below b13
  replace o_t6 := o_t6.below b13
  clear b13
  have Z12 := Lib.hid B12
  clear B12 Z12
  go_wp2_with fail
  refine (eqRecordS_any _ _ _ _ _ z1 _ o_t5.recs o_t8.recs (by omega) t1.out).mono ?_
  rintro e w14 ⟨rfl, b14⟩
  have B14 := B13.trans (b14.mono B13.size)
  have S14 := b14.size
  replace o_t4 := o_t4.below b14
  replace o_t5 := o_t5.below b14
  replace o_t6 := o_t6.below b14
  replace o_t8 := o_t8.below b14
  clear b14
  have Z13 := Lib.hid B13
  clear B13 Z13
  clear o_t8
  go_wp2_with fail
  refine (toIntS_law _ _ _ _ _ (r2.below B14) (by omega)).mono ?_
  rintro e w15 ⟨A_t9, c_t9, rfl, o_t9, b15⟩
  have B15 := B14.trans (b15.mono B14.size)
  have S15 := b15.size
  replace o_t4 := o_t4.below b15
  replace o_t5 := o_t5.below b15
  replace o_t6 := o_t6.below b15
  clear b15
  have Z14 := Lib.hid B14
  clear B14 Z14
  go_wp2_with fail
  refine (eqIntS_law _ _ _ _ _ _ _ o_t6.ints o_t9.ints o_t6.small).mono ?_
  rintro e w16 ⟨rfl, b16⟩
  have B16 := B15.trans (b16.mono B15.size)
  have S16 := b16.size
  replace o_t4 := o_t4.below b16
  replace o_t5 := o_t5.below b16
  replace o_t6 := o_t6.below b16
  replace o_t9 := o_t9.below b16
  clear b16
  have Z15 := Lib.hid B15
  clear B15 Z15
  clear o_t9
  go_wp2
  go_ret
  exact ⟨rfl, B16⟩
end Go.Proofs.Ythphjfelpbfdmaa
