/- The walk of the law FnExactExpectedHits, printed by lawgen2.py off the law's own text. -/
import Derived.Test.YthphjfelpbfdmaaRiskL
namespace Go.Proofs.Ythphjfelpbfdmaa
open Go.RowKit

set_option maxRecDepth 100000 in
set_option maxHeartbeats 4000000 in
theorem walk_FnExactExpectedHits (A0 : Option Addr) (n0 c0 : Nat) (z0 : List (ByteArray × Int)) (A1 : Option Addr) (n1 c1 : Nat) (z1 : List RecD) (A2 : Option Addr) (n2 c2 : Nat) (z2 : List RecD) (A3 : Option Addr) (n3 c3 : Nat) (z3 : List Int) (w : World) (r0 : VarsR w A0 n0 z0) (m0 : n0 ≤ maxLen) (s0 : ∀ j, j < n0 → (vN z0 j).size ≤ maxLen) (r1 : RecsR w A1 n1 z1) (m1 : n1 ≤ maxLen) (s1 : ∀ j, j < n1 → (rV z1 j).length ≤ maxLen) (r2 : RecsR w A2 n2 z2) (m2 : n2 ≤ maxLen) (s2 : ∀ j, j < n2 → (rV z2 j).length ≤ maxLen) (r3 : Ints w A3 n3 z3) (m3 : n3 ≤ maxLen) (_f3 : ∀ x ∈ z3, (Lit.int .i64 x).wf = true) :
    Calls Try.prog 13 #[.slice A0 n0 c0, .slice A1 n1 c1, .slice A2 n2 c2, .slice A3 n3 c3] w fun e w' => e = .returned (.bool true) ∧ Below w.heap.size w w' := by
  unfold maxLen at m0 s0
  unfold maxLen at m1 s1
  unfold maxLen at m2 s2
  unfold maxLen at m3
  rcases Nat.lt_or_ge 1048576 n3 with g3 | g3
  · go_enter Try.func13, Try.ntmps13
    go_wp2
    go_ret
    exact ⟨rfl, Below.refl _ _⟩
  go_enter Try.func13, Try.ntmps13
  have B0 : Below w.heap.size w w := Below.refl _ _
  go_wp2_with fail
  refine (szVariableS_any _ n0 _ _ z0 _ (r0.below B0) s0 m0 (by omega) (by omega)).mono ?_
  rintro e w1 ⟨⟨l1, rfl, p1, q1, k1⟩, b1⟩
  have B1 := B0.trans (b1.mono B0.size)
  have S1 := b1.size
  clear b1
  have Z0 := Lib.hid B0
  clear B0 Z0
  by_cases g_1 : l1 < 0
  · go_wp2
    go_ret
    exact ⟨rfl, B1⟩
  replace k1 := k1 (by omega)
  have e1 := k1.1
  have t0 : Hid (∀ j, j < n0 → (vN z0 j).size ≤ 1099511627776) := Lib.hid fun j hj => by have := k1.2 j hj; omega
  have y0 := Lib.hid r0.1
  clear k1 s0 m0
  have h0 : n0 ≤ 1048576 := by omega
  go_wp2_with fail
  refine (szRecordS_any _ n1 _ _ z1 _ (r1.below B1) s1 m1 (by omega) (by omega)).mono ?_
  rintro e w2 ⟨⟨l2, rfl, p2, q2, k2⟩, b2⟩
  have B2 := B1.trans (b2.mono B1.size)
  have S2 := b2.size
  clear b2
  have Z1 := Lib.hid B1
  clear B1 Z1
  by_cases g_2 : l2 < 0
  · go_wp2
    go_ret
    exact ⟨rfl, B2⟩
  replace k2 := k2 (by omega)
  have e2 := k2.1
  have t1 : Hid (∀ j, j < n1 → (rV z1 j).length ≤ 1099511627776) := Lib.hid fun j hj => by have := k2.2 j hj; omega
  have y1 := Lib.hid r1.1
  have u1 : Hid (∀ j, j < n1 → (rV z1 j).length ≤ 1048576) := Lib.hid fun j hj => by have := k2.2 j hj; omega
  clear k2 s1 m1
  have h1 : n1 ≤ 1048576 := by omega
  go_wp2_with fail
  refine (szRecordS_any _ n2 _ _ z2 _ (r2.below B2) s2 m2 (by omega) (by omega)).mono ?_
  rintro e w3 ⟨⟨l3, rfl, p3, q3, k3⟩, b3⟩
  have B3 := B2.trans (b3.mono B2.size)
  have S3 := b3.size
  clear b3
  have Z2 := Lib.hid B2
  clear B2 Z2
  by_cases g_3 : l3 < 0
  · go_wp2
    go_ret
    exact ⟨rfl, B3⟩
  replace k3 := k3 (by omega)
  have e3 := k3.1
  have t2 : Hid (∀ j, j < n2 → (rV z2 j).length ≤ 1099511627776) := Lib.hid fun j hj => by have := k3.2 j hj; omega
  have y2 := Lib.hid r2.1
  have u2 : Hid (∀ j, j < n2 → (rV z2 j).length ≤ 1048576) := Lib.hid fun j hj => by have := k3.2 j hj; omega
  clear k3 s2 m2
  have h2 : n2 ≤ 1048576 := by omega
  go_wp2_with fail
  refine (toVariableS_law _ _ _ z0 _ (r0.below B3) (by omega)).mono ?_
  rintro e w4 ⟨A_t1, c_t1, rfl, o_t1, b4⟩
  have B4 := B3.trans (b4.mono B3.size)
  have S4 := b4.size
  clear b4
  have Z3 := Lib.hid B3
  clear B3 Z3
  go_wp2_with fail
  refine (toRecordS_law _ _ _ z1 _ (r1.below B4) (by omega) t1.out).mono ?_
  rintro e w5 ⟨A_t2, c_t2, rfl, o_t2, b5⟩
  have B5 := B4.trans (b5.mono B4.size)
  have S5 := b5.size
  replace o_t1 := o_t1.below b5
  clear b5
  have Z4 := Lib.hid B4
  clear B4 Z4
  go_wp2_with fail
  refine (toRecordS_law _ _ _ z2 _ (r2.below B5) (by omega) t2.out).mono ?_
  rintro e w6 ⟨A_t3, c_t3, rfl, o_t3, b6⟩
  have B6 := B5.trans (b6.mono B5.size)
  have S6 := b6.size
  replace o_t1 := o_t1.below b6
  replace o_t2 := o_t2.below b6
  clear b6
  have Z5 := Lib.hid B5
  clear B5 Z5
  go_wp2_with fail
  refine (toIntS_law _ _ _ _ _ (r3.below B6) (by omega)).mono ?_
  rintro e w7 ⟨A_t4, c_t4, rfl, o_t4, b7⟩
  have B7 := B6.trans (b7.mono B6.size)
  have S7 := b7.size
  replace o_t1 := o_t1.below b7
  replace o_t2 := o_t2.below b7
  replace o_t3 := o_t3.below b7
  clear b7
  have Z6 := Lib.hid B6
  clear B6 Z6
  go_wp2_with fail
  refine (specExpectedHits_law _ _ _ _ _ _ _ _ _ _ _ _ z0 z1 z2 z3 _ (o_t1.sch t0.out) (o_t2.dat t1.out) (o_t3.dat t2.out) o_t4.intR).mono ?_
  rintro e w8 ⟨rfl, b8⟩
  have B8 := B7.trans (b8.mono B7.size)
  have S8 := b8.size
  replace o_t1 := o_t1.below b8
  replace o_t2 := o_t2.below b8
  replace o_t3 := o_t3.below b8
  replace o_t4 := o_t4.below b8
  clear b8
  have Z7 := Lib.hid B7
  clear B7 Z7
  clear o_t1
  clear o_t2
  clear o_t3
  clear o_t4
  go_wp2_with fail
  have b9 : Below w8.heap.size w8 (w8.alloc (.cells #[.int .i64 (fN (hitsO z0 z1 z2 z3)), .int .i64 (fD (hitsO z0 z1 z2 z3))] 72)) := below_new _ _
  have x_w0 : (w8.alloc (.cells #[.int .i64 (fN (hitsO z0 z1 z2 z3)), .int .i64 (fD (hitsO z0 z1 z2 z3))] 72)).heap[w8.heap.size]? = some (.cells #[.int .i64 (fN (hitsO z0 z1 z2 z3)), .int .i64 (fD (hitsO z0 z1 z2 z3))] 72 (0, 0)) := box_new _ _ _
  generalize w8.alloc (.cells #[.int .i64 (fN (hitsO z0 z1 z2 z3)), .int .i64 (fD (hitsO z0 z1 z2 z3))] 72) = w9 at b9 x_w0 ⊢
  have B9 := B8.trans (b9.mono B8.size)
  have S9 := b9.size
  clear b9
  have Z8 := Lib.hid B8
  clear B8 Z8
  refine (toVariableS_law _ _ _ z0 _ (r0.below B9) (by omega)).mono ?_
  rintro e w10 ⟨A_t5, c_t5, rfl, o_t5, b10⟩
  have B10 := B9.trans (b10.mono B9.size)
  have S10 := b10.size
  replace x_w0 := (b10.block _ (lt_of_block x_w0)).trans x_w0
  clear b10
  have Z9 := Lib.hid B9
  clear B9 Z9
  have c_w0 := box_cell x_w0 0 _ rfl
  have d_w0 := box_cell x_w0 1 _ rfl
  have l_w0 := lt_of_block x_w0
  go_wp2_with fail
  clear c_w0 d_w0 l_w0
  refine (toRecordS_law _ _ _ z1 _ (r1.below B10) (by omega) t1.out).mono ?_
  rintro e w11 ⟨A_t6, c_t6, rfl, o_t6, b11⟩
  have B11 := B10.trans (b11.mono B10.size)
  have S11 := b11.size
  replace o_t5 := o_t5.below b11
  replace x_w0 := (b11.block _ (lt_of_block x_w0)).trans x_w0
  clear b11
  have Z10 := Lib.hid B10
  clear B10 Z10
  have c_w0 := box_cell x_w0 0 _ rfl
  have d_w0 := box_cell x_w0 1 _ rfl
  have l_w0 := lt_of_block x_w0
  go_wp2_with fail
  clear c_w0 d_w0 l_w0
  refine (toRecordS_law _ _ _ z2 _ (r2.below B11) (by omega) t2.out).mono ?_
  rintro e w12 ⟨A_t7, c_t7, rfl, o_t7, b12⟩
  have B12 := B11.trans (b12.mono B11.size)
  have S12 := b12.size
  replace o_t5 := o_t5.below b12
  replace o_t6 := o_t6.below b12
  replace x_w0 := (b12.block _ (lt_of_block x_w0)).trans x_w0
  clear b12
  have Z11 := Lib.hid B11
  clear B11 Z11
  have c_w0 := box_cell x_w0 0 _ rfl
  have d_w0 := box_cell x_w0 1 _ rfl
  have l_w0 := lt_of_block x_w0
  go_wp2_with fail
  clear c_w0 d_w0 l_w0
  refine (toIntS_law _ _ _ _ _ (r3.below B12) (by omega)).mono ?_
  rintro e w13 ⟨A_t8, c_t8, rfl, o_t8, b13⟩
  have B13 := B12.trans (b13.mono B12.size)
  have S13 := b13.size
  replace o_t5 := o_t5.below b13
  replace o_t6 := o_t6.below b13
  replace o_t7 := o_t7.below b13
  replace x_w0 := (b13.block _ (lt_of_block x_w0)).trans x_w0
  clear b13
  have Z12 := Lib.hid B12
  clear B12 Z12
  have c_w0 := box_cell x_w0 0 _ rfl
  have d_w0 := box_cell x_w0 1 _ rfl
  have l_w0 := lt_of_block x_w0
  go_wp2_with fail
  clear c_w0 d_w0 l_w0
  refine (implExpectedHits_law _ _ _ _ _ _ _ _ _ _ _ _ z0 z1 z2 z3 _ (o_t5.sch t0.out) (o_t6.dat t1.out) (o_t7.dat t2.out) o_t8.intR).mono ?_
  rintro e w14 ⟨rfl, b14⟩
  have B14 := B13.trans (b14.mono B13.size)
  have S14 := b14.size
  replace o_t5 := o_t5.below b14
  replace o_t6 := o_t6.below b14
  replace o_t7 := o_t7.below b14
  replace o_t8 := o_t8.below b14
  replace x_w0 := (b14.block _ (lt_of_block x_w0)).trans x_w0
  clear b14
  have Z13 := Lib.hid B13
  clear B13 Z13
  have c_w0 := box_cell x_w0 0 _ rfl
  have d_w0 := box_cell x_w0 1 _ rfl
  have l_w0 := lt_of_block x_w0
  go_wp2_with fail
  clear c_w0 d_w0 l_w0
  have b15 : Below w14.heap.size w14 (w14.alloc (.cells #[.int .i64 (fN (hitsO z0 z1 z2 z3)), .int .i64 (fD (hitsO z0 z1 z2 z3))] 72)) := below_new _ _
  have x_g0 : (w14.alloc (.cells #[.int .i64 (fN (hitsO z0 z1 z2 z3)), .int .i64 (fD (hitsO z0 z1 z2 z3))] 72)).heap[w14.heap.size]? = some (.cells #[.int .i64 (fN (hitsO z0 z1 z2 z3)), .int .i64 (fD (hitsO z0 z1 z2 z3))] 72 (0, 0)) := box_new _ _ _
  generalize w14.alloc (.cells #[.int .i64 (fN (hitsO z0 z1 z2 z3)), .int .i64 (fD (hitsO z0 z1 z2 z3))] 72) = w15 at b15 x_g0 ⊢
  have B15 := B14.trans (b15.mono B14.size)
  have S15 := b15.size
  replace o_t5 := o_t5.below b15
  replace o_t6 := o_t6.below b15
  replace o_t7 := o_t7.below b15
  replace o_t8 := o_t8.below b15
  replace x_w0 := (b15.block _ (lt_of_block x_w0)).trans x_w0
  clear b15
  have Z14 := Lib.hid B14
  clear B14 Z14
  refine (eqFrac_true _ _ _).mono ?_
  rintro e w16 ⟨rfl, b16⟩
  have B16 := B15.trans (b16.mono B15.size)
  have S16 := b16.size
  replace o_t5 := o_t5.below b16
  replace o_t6 := o_t6.below b16
  replace o_t7 := o_t7.below b16
  replace o_t8 := o_t8.below b16
  replace x_w0 := (b16.block _ (lt_of_block x_w0)).trans x_w0
  replace x_g0 := (b16.block _ (lt_of_block x_g0)).trans x_g0
  clear b16
  have Z15 := Lib.hid B15
  clear B15 Z15
  have c_w0 := box_cell x_w0 0 _ rfl
  have d_w0 := box_cell x_w0 1 _ rfl
  have l_w0 := lt_of_block x_w0
  have c_g0 := box_cell x_g0 0 _ rfl
  have d_g0 := box_cell x_g0 1 _ rfl
  have l_g0 := lt_of_block x_g0
  go_wp2_with fail
  clear c_w0 d_w0 l_w0
  clear c_g0 d_g0 l_g0
  refine (toVariableS_law _ _ _ z0 _ (r0.below B16) (by omega)).mono ?_
  rintro e w17 ⟨A_t9, c_t9, rfl, o_t9, b17⟩
  have B17 := B16.trans (b17.mono B16.size)
  have S17 := b17.size
  replace o_t5 := o_t5.below b17
  replace o_t6 := o_t6.below b17
  replace o_t7 := o_t7.below b17
  replace o_t8 := o_t8.below b17
  replace x_w0 := (b17.block _ (lt_of_block x_w0)).trans x_w0
  replace x_g0 := (b17.block _ (lt_of_block x_g0)).trans x_g0
  clear b17
  have Z16 := Lib.hid B16
  clear B16 Z16
  have c_w0 := box_cell x_w0 0 _ rfl
  have d_w0 := box_cell x_w0 1 _ rfl
  have l_w0 := lt_of_block x_w0
  have c_g0 := box_cell x_g0 0 _ rfl
  have d_g0 := box_cell x_g0 1 _ rfl
  have l_g0 := lt_of_block x_g0
  go_wp2_with fail
  clear c_w0 d_w0 l_w0
  clear c_g0 d_g0 l_g0
  refine (eqVariableS_any _ _ _ _ _ z0 _ o_t5.vars o_t9.vars (by omega)).mono ?_
  rintro e w18 ⟨rfl, b18⟩
  have B18 := B17.trans (b18.mono B17.size)
  have S18 := b18.size
  replace o_t5 := o_t5.below b18
  replace o_t6 := o_t6.below b18
  replace o_t7 := o_t7.below b18
  replace o_t8 := o_t8.below b18
  replace o_t9 := o_t9.below b18
  replace x_w0 := (b18.block _ (lt_of_block x_w0)).trans x_w0
  replace x_g0 := (b18.block _ (lt_of_block x_g0)).trans x_g0
  clear b18
  have Z17 := Lib.hid B17
  clear B17 Z17
  clear o_t9
  have c_w0 := box_cell x_w0 0 _ rfl
  have d_w0 := box_cell x_w0 1 _ rfl
  have l_w0 := lt_of_block x_w0
  have c_g0 := box_cell x_g0 0 _ rfl
  have d_g0 := box_cell x_g0 1 _ rfl
  have l_g0 := lt_of_block x_g0
  go_wp2_with fail
  clear c_w0 d_w0 l_w0
  clear c_g0 d_g0 l_g0
  refine (toRecordS_law _ _ _ z1 _ (r1.below B18) (by omega) t1.out).mono ?_
  rintro e w19 ⟨A_t10, c_t10, rfl, o_t10, b19⟩
  have B19 := B18.trans (b19.mono B18.size)
  have S19 := b19.size
  replace o_t5 := o_t5.below b19
  replace o_t6 := o_t6.below b19
  replace o_t7 := o_t7.below b19
  replace o_t8 := o_t8.below b19
  replace x_w0 := (b19.block _ (lt_of_block x_w0)).trans x_w0
  replace x_g0 := (b19.block _ (lt_of_block x_g0)).trans x_g0
  clear b19
  have Z18 := Lib.hid B18
  clear B18 Z18
  have c_w0 := box_cell x_w0 0 _ rfl
  have d_w0 := box_cell x_w0 1 _ rfl
  have l_w0 := lt_of_block x_w0
  have c_g0 := box_cell x_g0 0 _ rfl
  have d_g0 := box_cell x_g0 1 _ rfl
  have l_g0 := lt_of_block x_g0
  go_wp2_with fail
  clear c_w0 d_w0 l_w0
  clear c_g0 d_g0 l_g0
  refine (eqRecordS_any _ _ _ _ _ z1 _ o_t6.recs o_t10.recs (by omega) t1.out).mono ?_
  rintro e w20 ⟨rfl, b20⟩
  have B20 := B19.trans (b20.mono B19.size)
  have S20 := b20.size
  replace o_t5 := o_t5.below b20
  replace o_t6 := o_t6.below b20
  replace o_t7 := o_t7.below b20
  replace o_t8 := o_t8.below b20
  replace o_t10 := o_t10.below b20
  replace x_w0 := (b20.block _ (lt_of_block x_w0)).trans x_w0
  replace x_g0 := (b20.block _ (lt_of_block x_g0)).trans x_g0
  clear b20
  have Z19 := Lib.hid B19
  clear B19 Z19
  clear o_t10
  have c_w0 := box_cell x_w0 0 _ rfl
  have d_w0 := box_cell x_w0 1 _ rfl
  have l_w0 := lt_of_block x_w0
  have c_g0 := box_cell x_g0 0 _ rfl
  have d_g0 := box_cell x_g0 1 _ rfl
  have l_g0 := lt_of_block x_g0
  go_wp2_with fail
  clear c_w0 d_w0 l_w0
  clear c_g0 d_g0 l_g0
  refine (toRecordS_law _ _ _ z2 _ (r2.below B20) (by omega) t2.out).mono ?_
  rintro e w21 ⟨A_t11, c_t11, rfl, o_t11, b21⟩
  have B21 := B20.trans (b21.mono B20.size)
  have S21 := b21.size
  replace o_t5 := o_t5.below b21
  replace o_t6 := o_t6.below b21
  replace o_t7 := o_t7.below b21
  replace o_t8 := o_t8.below b21
  replace x_w0 := (b21.block _ (lt_of_block x_w0)).trans x_w0
  replace x_g0 := (b21.block _ (lt_of_block x_g0)).trans x_g0
  clear b21
  have Z20 := Lib.hid B20
  clear B20 Z20
  have c_w0 := box_cell x_w0 0 _ rfl
  have d_w0 := box_cell x_w0 1 _ rfl
  have l_w0 := lt_of_block x_w0
  have c_g0 := box_cell x_g0 0 _ rfl
  have d_g0 := box_cell x_g0 1 _ rfl
  have l_g0 := lt_of_block x_g0
  go_wp2_with fail
  clear c_w0 d_w0 l_w0
  clear c_g0 d_g0 l_g0
  refine (eqRecordS_any _ _ _ _ _ z2 _ o_t7.recs o_t11.recs (by omega) t2.out).mono ?_
  rintro e w22 ⟨rfl, b22⟩
  have B22 := B21.trans (b22.mono B21.size)
  have S22 := b22.size
  replace o_t5 := o_t5.below b22
  replace o_t6 := o_t6.below b22
  replace o_t7 := o_t7.below b22
  replace o_t8 := o_t8.below b22
  replace o_t11 := o_t11.below b22
  replace x_w0 := (b22.block _ (lt_of_block x_w0)).trans x_w0
  replace x_g0 := (b22.block _ (lt_of_block x_g0)).trans x_g0
  clear b22
  have Z21 := Lib.hid B21
  clear B21 Z21
  clear o_t11
  have c_w0 := box_cell x_w0 0 _ rfl
  have d_w0 := box_cell x_w0 1 _ rfl
  have l_w0 := lt_of_block x_w0
  have c_g0 := box_cell x_g0 0 _ rfl
  have d_g0 := box_cell x_g0 1 _ rfl
  have l_g0 := lt_of_block x_g0
  go_wp2_with fail
  clear c_w0 d_w0 l_w0
  clear c_g0 d_g0 l_g0
  refine (toIntS_law _ _ _ _ _ (r3.below B22) (by omega)).mono ?_
  rintro e w23 ⟨A_t12, c_t12, rfl, o_t12, b23⟩
  have B23 := B22.trans (b23.mono B22.size)
  have S23 := b23.size
  replace o_t5 := o_t5.below b23
  replace o_t6 := o_t6.below b23
  replace o_t7 := o_t7.below b23
  replace o_t8 := o_t8.below b23
  replace x_w0 := (b23.block _ (lt_of_block x_w0)).trans x_w0
  replace x_g0 := (b23.block _ (lt_of_block x_g0)).trans x_g0
  clear b23
  have Z22 := Lib.hid B22
  clear B22 Z22
  have c_w0 := box_cell x_w0 0 _ rfl
  have d_w0 := box_cell x_w0 1 _ rfl
  have l_w0 := lt_of_block x_w0
  have c_g0 := box_cell x_g0 0 _ rfl
  have d_g0 := box_cell x_g0 1 _ rfl
  have l_g0 := lt_of_block x_g0
  go_wp2_with fail
  clear c_w0 d_w0 l_w0
  clear c_g0 d_g0 l_g0
  refine (eqIntS_law _ _ _ _ _ _ _ o_t8.ints o_t12.ints o_t8.small).mono ?_
  rintro e w24 ⟨rfl, b24⟩
  have B24 := B23.trans (b24.mono B23.size)
  have S24 := b24.size
  replace o_t5 := o_t5.below b24
  replace o_t6 := o_t6.below b24
  replace o_t7 := o_t7.below b24
  replace o_t8 := o_t8.below b24
  replace o_t12 := o_t12.below b24
  replace x_w0 := (b24.block _ (lt_of_block x_w0)).trans x_w0
  replace x_g0 := (b24.block _ (lt_of_block x_g0)).trans x_g0
  clear b24
  have Z23 := Lib.hid B23
  clear B23 Z23
  clear o_t12
  have c_w0 := box_cell x_w0 0 _ rfl
  have d_w0 := box_cell x_w0 1 _ rfl
  have l_w0 := lt_of_block x_w0
  have c_g0 := box_cell x_g0 0 _ rfl
  have d_g0 := box_cell x_g0 1 _ rfl
  have l_g0 := lt_of_block x_g0
  go_wp2
  go_ret
  exact ⟨rfl, B24⟩
end Go.Proofs.Ythphjfelpbfdmaa
