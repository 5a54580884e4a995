/- The walk of the law FnExactSwapPlan, printed by lawgen2.py off the law's own text. -/
import Derived.Test.YtcjlegikodognaaIwL
namespace Go.Proofs.Ytcjlegikodognaa
open Go.RowKit

set_option maxRecDepth 100000 in
set_option maxHeartbeats 4000000 in
theorem walk_FnExactSwapPlan (A0 : Option Addr) (n0 c0 : Nat) (z0 : List (ByteArray × Int)) (A1 : Option Addr) (n1 c1 : Nat) (z1 : List RecD) (A2 : Option Addr) (n2 c2 : Nat) (z2 : List Int) (a3 : Int) (a4 : Int) (w : World) (r0 : VarsR w A0 n0 z0) (m0 : n0 ≤ maxLen) (s0 : ∀ j, j < n0 → (vN z0 j).size ≤ maxLen) (r1 : RecsR w A1 n1 z1) (m1 : n1 ≤ maxLen) (s1 : ∀ j, j < n1 → (rV z1 j).length ≤ maxLen) (r2 : Ints w A2 n2 z2) (m2 : n2 ≤ maxLen) (_f2 : ∀ x ∈ z2, (Lit.int .i64 x).wf = true) (_w3 : (Lit.int .i64 a3).wf = true) (_w4 : (Lit.int .i64 a4).wf = true) :
    Calls Try.prog 3 #[.slice A0 n0 c0, .slice A1 n1 c1, .slice A2 n2 c2, .int .i64 a3, .int .i64 a4] w fun e w' => e = .returned (.bool true) ∧ Below w.heap.size w w' := by
  unfold maxLen at m0 s0
  unfold maxLen at m1 s1
  unfold maxLen at m2
  rcases Nat.lt_or_ge 1048576 n2 with g2 | g2
  · go_enter Try.func3, Try.ntmps3
    go_wp2
    go_ret
    exact ⟨rfl, Below.refl _ _⟩
  go_enter Try.func3, Try.ntmps3
  have B0 : Below w.heap.size w w := Below.refl _ _
  go_wp2_with fail
  refine (szVariableS_any _ n0 _ _ z0 _ (r0.below B0) s0 m0 (by omega) (by omega)).mono ?_
  rintro e w1 ⟨⟨l1, rfl, p1, q1, k1⟩, b1⟩
  have B1 := B0.trans (b1.mono B0.size)
  have S1 := b1.size
  clear b1
  have Z0 := Lib.hid B0
  clear B0 Z0
  by_cases g_1 : l1 < 0
  · go_wp2
    go_ret
    exact ⟨rfl, B1⟩
  replace k1 := k1 (by omega)
  have e1 := k1.1
  have t0 : Hid (∀ j, j < n0 → (vN z0 j).size ≤ 1099511627776) := Lib.hid fun j hj => by have := k1.2 j hj; omega
  have y0 := Lib.hid r0.1
  clear k1 s0 m0
  have h0 : n0 ≤ 1048576 := by omega
  go_wp2_with fail
  refine (szRecordS_any _ n1 _ _ z1 _ (r1.below B1) s1 m1 (by omega) (by omega)).mono ?_
  rintro e w2 ⟨⟨l2, rfl, p2, q2, k2⟩, b2⟩
  have B2 := B1.trans (b2.mono B1.size)
  have S2 := b2.size
  clear b2
  have Z1 := Lib.hid B1
  clear B1 Z1
  by_cases g_2 : l2 < 0
  · go_wp2
    go_ret
    exact ⟨rfl, B2⟩
  replace k2 := k2 (by omega)
  have e2 := k2.1
  have t1 : Hid (∀ j, j < n1 → (rV z1 j).length ≤ 1099511627776) := Lib.hid fun j hj => by have := k2.2 j hj; omega
  have y1 := Lib.hid r1.1
  have u1 : Hid (∀ j, j < n1 → (rV z1 j).length ≤ 1048576) := Lib.hid fun j hj => by have := k2.2 j hj; omega
  clear k2 s1 m1
  have h1 : n1 ≤ 1048576 := by omega
  go_wp2_with fail
  refine (toVariableS_law _ _ _ z0 _ (r0.below B2) (by omega)).mono ?_
  rintro e w3 ⟨A_t1, c_t1, rfl, o_t1, b3⟩
  have B3 := B2.trans (b3.mono B2.size)
  have S3 := b3.size
  clear b3
  have Z2 := Lib.hid B2
  clear B2 Z2
  go_wp2_with fail
  refine (toRecordS_law _ _ _ z1 _ (r1.below B3) (by omega) t1.out).mono ?_
  rintro e w4 ⟨A_t2, c_t2, rfl, o_t2, b4⟩
  have B4 := B3.trans (b4.mono B3.size)
  have S4 := b4.size
  replace o_t1 := o_t1.below b4
  clear b4
  have Z3 := Lib.hid B3
  clear B3 Z3
  go_wp2_with fail
  refine (toIntS_law _ _ _ _ _ (r2.below B4) (by omega)).mono ?_
  rintro e w5 ⟨A_t3, c_t3, rfl, o_t3, b5⟩
  have B5 := B4.trans (b5.mono B4.size)
  have S5 := b5.size
  replace o_t1 := o_t1.below b5
  replace o_t2 := o_t2.below b5
  clear b5
  have Z4 := Lib.hid B4
  clear B4 Z4
  go_wp2_with fail
  refine (specSwapPlan_law a4 a3 _ _ _ _ _ _ _ _ _ z0 z1 z2 _ (o_t1.sch t0.out) (o_t2.dat t1.out) o_t3.intR).mono ?_
  rintro e w6 ⟨A_w0, c_w0, rfl, o_w0, b6⟩
  have B6 := B5.trans (b6.mono B5.size)
  have S6 := b6.size
  replace o_t1 := o_t1.below b6
  replace o_t2 := o_t2.below b6
  replace o_t3 := o_t3.below b6
  clear b6
  have Z5 := Lib.hid B5
  clear B5 Z5
  clear o_t1
  clear o_t2
  clear o_t3
  go_wp2_with fail
  refine (toVariableS_law _ _ _ z0 _ (r0.below B6) (by omega)).mono ?_
  rintro e w7 ⟨A_t4, c_t4, rfl, o_t4, b7⟩
  have B7 := B6.trans (b7.mono B6.size)
  have S7 := b7.size
  replace o_w0 := o_w0.below b7
  clear b7
  have Z6 := Lib.hid B6
  clear B6 Z6
  go_wp2_with fail
  refine (toRecordS_law _ _ _ z1 _ (r1.below B7) (by omega) t1.out).mono ?_
  rintro e w8 ⟨A_t5, c_t5, rfl, o_t5, b8⟩
  have B8 := B7.trans (b8.mono B7.size)
  have S8 := b8.size
  replace o_w0 := o_w0.below b8
  replace o_t4 := o_t4.below b8
  clear b8
  have Z7 := Lib.hid B7
  clear B7 Z7
  go_wp2_with fail
  refine (toIntS_law _ _ _ _ _ (r2.below B8) (by omega)).mono ?_
  rintro e w9 ⟨A_t6, c_t6, rfl, o_t6, b9⟩
  have B9 := B8.trans (b9.mono B8.size)
  have S9 := b9.size
  replace o_w0 := o_w0.below b9
  replace o_t4 := o_t4.below b9
  replace o_t5 := o_t5.below b9
  clear b9
  have Z8 := Lib.hid B8
  clear B8 Z8
  go_wp2_with fail
  refine (implSwapPlan_law a4 a3 _ _ _ _ _ _ _ _ _ z0 z1 z2 _ (o_t4.sch t0.out) (o_t5.dat t1.out) o_t6.intR).mono ?_
  rintro e w10 ⟨A_g0, c_g0, rfl, o_g0, b10⟩
  have B10 := B9.trans (b10.mono B9.size)
  have S10 := b10.size
  replace o_w0 := o_w0.below b10
  replace o_t4 := o_t4.below b10
  replace o_t5 := o_t5.below b10
  replace o_t6 := o_t6.below b10
  clear b10
  have Z9 := Lib.hid B9
  clear B9 Z9
  go_wp2_with fail
  refine (eqIntSS_law _ _ _ _ _ _ _ o_g0.read o_w0.read o_g0.small (fun j hj => Nat.le_trans (spV_row _ _ _ _ _ j) (by omega))).mono ?_
  rintro e w11 ⟨rfl, b11⟩
  have B11 := B10.trans (b11.mono B10.size)
  have S11 := b11.size
  replace o_w0 := o_w0.below b11
  replace o_t4 := o_t4.below b11
  replace o_t5 := o_t5.below b11
  replace o_t6 := o_t6.below b11
  replace o_g0 := o_g0.below b11
  clear b11
  have Z10 := Lib.hid B10
  clear B10 Z10
  go_wp2_with fail
  refine (toVariableS_law _ _ _ z0 _ (r0.below B11) (by omega)).mono ?_
  rintro e w12 ⟨A_t7, c_t7, rfl, o_t7, b12⟩
  have B12 := B11.trans (b12.mono B11.size)
  have S12 := b12.size
  replace o_w0 := o_w0.below b12
  replace o_t4 := o_t4.below b12
  replace o_t5 := o_t5.below b12
  replace o_t6 := o_t6.below b12
  replace o_g0 := o_g0.below b12
  clear b12
  have Z11 := Lib.hid B11
  clear B11 Z11
  go_wp2_with fail
  refine (eqVariableS_any _ _ _ _ _ z0 _ o_t4.vars o_t7.vars (by omega)).mono ?_
  rintro e w13 ⟨rfl, b13⟩
  have B13 := B12.trans (b13.mono B12.size)
  have S13 := b13.size
  replace o_w0 := o_w0.below b13
  replace o_t4 := o_t4.below b13
  replace o_t5 := o_t5.below b13
  replace o_t6 := o_t6.below b13
  replace o_g0 := o_g0.below b13
  replace o_t7 := o_t7.below b13
  clear b13
  have Z12 := Lib.hid B12
  clear B12 Z12
  clear o_t7
  go_wp2_with fail
  refine (toRecordS_law _ _ _ z1 _ (r1.below B13) (by omega) t1.out).mono ?_
  rintro e w14 ⟨A_t8, c_t8, rfl, o_t8, b14⟩
  have B14 := B13.trans (b14.mono B13.size)
  have S14 := b14.size
  replace o_w0 := o_w0.below b14
  replace o_t4 := o_t4.below b14
  replace o_t5 := o_t5.below b14
  replace o_t6 := o_t6.below b14
  replace o_g0 := o_g0.below b14
  clear b14
  have Z13 := Lib.hid B13
  clear B13 Z13
  go_wp2_with fail
  refine (eqRecordS_any _ _ _ _ _ z1 _ o_t5.recs o_t8.recs (by omega) t1.out).mono ?_
  rintro e w15 ⟨rfl, b15⟩
  have B15 := B14.trans (b15.mono B14.size)
  have S15 := b15.size
  replace o_w0 := o_w0.below b15
  replace o_t4 := o_t4.below b15
  replace o_t5 := o_t5.below b15
  replace o_t6 := o_t6.below b15
  replace o_g0 := o_g0.below b15
  replace o_t8 := o_t8.below b15
  clear b15
  have Z14 := Lib.hid B14
  clear B14 Z14
  clear o_t8
  go_wp2_with fail
  refine (toIntS_law _ _ _ _ _ (r2.below B15) (by omega)).mono ?_
  rintro e w16 ⟨A_t9, c_t9, rfl, o_t9, b16⟩
  have B16 := B15.trans (b16.mono B15.size)
  have S16 := b16.size
  replace o_w0 := o_w0.below b16
  replace o_t4 := o_t4.below b16
  replace o_t5 := o_t5.below b16
  replace o_t6 := o_t6.below b16
  replace o_g0 := o_g0.below b16
  clear b16
  have Z15 := Lib.hid B15
  clear B15 Z15
  go_wp2_with fail
  refine (eqIntS_law _ _ _ _ _ _ _ o_t6.ints o_t9.ints o_t6.small).mono ?_
  rintro e w17 ⟨rfl, b17⟩
  have B17 := B16.trans (b17.mono B16.size)
  have S17 := b17.size
  replace o_w0 := o_w0.below b17
  replace o_t4 := o_t4.below b17
  replace o_t5 := o_t5.below b17
  replace o_t6 := o_t6.below b17
  replace o_g0 := o_g0.below b17
  replace o_t9 := o_t9.below b17
  clear b17
  have Z16 := Lib.hid B16
  clear B16 Z16
  clear o_t9
  go_wp2_with fail
  have p_t4 := o_t4
  clear o_t4
  have s_t6 := o_t6.small
  refine (markVariableS_law _ _ _ _ _ _ z0 _ p_t4 (by omega) (by omega)).mono ?_
  rintro e w18 ⟨rfl, b18⟩
  have B18 := b18.below B17 (by omega) B17.size
  have S18 := b18.size
  replace o_w0 := o_w0.chg b18 (by omega)
  replace o_t5 := o_t5.chg b18 (by omega)
  replace o_t6 := o_t6.chg b18 (by omega)
  replace o_g0 := o_g0.chg b18 (by omega)
  clear b18
  have Z17 := Lib.hid B17
  clear B17 Z17
  clear p_t4
  go_wp2_with fail
  have p_t5 := o_t5
  clear o_t5
  refine (markRecordS_law _ _ _ _ _ _ z1 _ p_t5 (by omega) u1.out (by omega) (by omega)).mono ?_
  rintro e w19 ⟨⟨v1, rfl, va1, vb1⟩, b19⟩
  have B19 := b19.below B18 (by omega) B18.size
  have S19 := b19.size
  replace o_w0 := o_w0.chg b19 (by omega)
  replace o_t6 := o_t6.chg b19 (by omega)
  replace o_g0 := o_g0.chg b19 (by omega)
  clear b19
  have Z18 := Lib.hid B18
  clear B18 Z18
  clear p_t5
  go_wp2_with fail
  have p_t6 := o_t6
  clear o_t6
  have sx_t6 := p_t6.small
  refine (markIntS_law _ _ _ _ _ _ _ _ p_t6 (by omega) (by omega)).mono ?_
  rintro e w20 ⟨rfl, o_t6, b20⟩
  have B20 := b20.below B19 (by omega) B19.size
  have S20 := b20.size
  replace o_w0 := o_w0.chg b20 (by omega)
  replace o_g0 := o_g0.chg b20 (by omega)
  clear b20
  have Z19 := Lib.hid B19
  clear B19 Z19
  clear p_t6
  go_wp2_with fail
  refine (eqIntSS_law _ _ _ _ _ _ _ o_g0.read o_w0.read o_g0.small (fun j hj => Nat.le_trans (spV_row _ _ _ _ _ j) (by omega))).mono ?_
  rintro e w21 ⟨rfl, b21⟩
  have B21 := B20.trans (b21.mono B20.size)
  have S21 := b21.size
  replace o_w0 := o_w0.below b21
  replace o_t6 := o_t6.below b21
  replace o_g0 := o_g0.below b21
  clear b21
  have Z20 := Lib.hid B20
  clear B20 Z20
  go_wp2_with fail
  have p_g0 := o_g0
  clear o_g0
  refine (markIntSS_law _ _ _ _ _ _ _ _ p_g0 (spV_le _ _ _ _ _) (fun j hj => spV_row _ _ _ _ _ j) (by omega) (by omega)).mono ?_
  rintro e w22 ⟨rfl, o_g0, b22⟩
  have B22 := b22.below B21 (by omega) B21.size
  have S22 := b22.size
  replace o_w0 := o_w0.chg b22 (by omega)
  replace o_t6 := o_t6.chg b22 (by omega)
  clear b22
  have Z21 := Lib.hid B21
  clear B21 Z21
  clear p_g0
  go_wp2_with fail
  refine (heldIntSS_law _ _ _ _ _ _ o_g0.read (spV_le _ _ _ _ _) (fun j hj => spV_row _ _ _ _ _ j) (by omega) (by omega)).mono ?_
  rintro e w23 ⟨rfl, b23⟩
  have B23 := B22.trans (b23.mono B22.size)
  have S23 := b23.size
  replace o_w0 := o_w0.below b23
  replace o_t6 := o_t6.below b23
  replace o_g0 := o_g0.below b23
  clear b23
  have Z22 := Lib.hid B22
  clear B22 Z22
  go_wp2_with fail
  refine (toVariableS_law _ _ _ z0 _ (r0.below B23) (by omega)).mono ?_
  rintro e w24 ⟨A_t10, c_t10, rfl, o_t10, b24⟩
  have B24 := B23.trans (b24.mono B23.size)
  have S24 := b24.size
  replace o_w0 := o_w0.below b24
  replace o_t6 := o_t6.below b24
  replace o_g0 := o_g0.below b24
  clear b24
  have Z23 := Lib.hid B23
  clear B23 Z23
  go_wp2_with fail
  refine (toRecordS_law _ _ _ z1 _ (r1.below B24) (by omega) t1.out).mono ?_
  rintro e w25 ⟨A_t11, c_t11, rfl, o_t11, b25⟩
  have B25 := B24.trans (b25.mono B24.size)
  have S25 := b25.size
  replace o_w0 := o_w0.below b25
  replace o_t6 := o_t6.below b25
  replace o_g0 := o_g0.below b25
  replace o_t10 := o_t10.below b25
  clear b25
  have Z24 := Lib.hid B24
  clear B24 Z24
  go_wp2_with fail
  refine (toIntS_law _ _ _ _ _ (r2.below B25) (by omega)).mono ?_
  rintro e w26 ⟨A_t12, c_t12, rfl, o_t12, b26⟩
  have B26 := B25.trans (b26.mono B25.size)
  have S26 := b26.size
  replace o_w0 := o_w0.below b26
  replace o_t6 := o_t6.below b26
  replace o_g0 := o_g0.below b26
  replace o_t10 := o_t10.below b26
  replace o_t11 := o_t11.below b26
  clear b26
  have Z25 := Lib.hid B25
  clear B25 Z25
  go_wp2_with fail
  refine (implSwapPlan_law a4 a3 _ _ _ _ _ _ _ _ _ z0 z1 z2 _ (o_t10.sch t0.out) (o_t11.dat t1.out) o_t12.intR).mono ?_
  rintro e w27 ⟨A_h0, c_h0, rfl, o_h0, b27⟩
  have B27 := B26.trans (b27.mono B26.size)
  have S27 := b27.size
  replace o_w0 := o_w0.below b27
  replace o_t6 := o_t6.below b27
  replace o_g0 := o_g0.below b27
  replace o_t10 := o_t10.below b27
  replace o_t11 := o_t11.below b27
  replace o_t12 := o_t12.below b27
  clear b27
  have Z26 := Lib.hid B26
  clear B26 Z26
  clear o_t10
  clear o_t11
  clear o_t12
  go_wp2_with fail
  refine (eqIntSS_law _ _ _ _ _ _ _ o_h0.read o_w0.read o_h0.small (fun j hj => Nat.le_trans (spV_row _ _ _ _ _ j) (by omega))).mono ?_
  rintro e w28 ⟨rfl, b28⟩
  have B28 := B27.trans (b28.mono B27.size)
  have S28 := b28.size
  replace o_w0 := o_w0.below b28
  replace o_t6 := o_t6.below b28
  replace o_g0 := o_g0.below b28
  replace o_h0 := o_h0.below b28
  clear b28
  have Z27 := Lib.hid B27
  clear B27 Z27
  go_wp2_with fail
  refine (heldIntSS_law _ _ _ _ _ _ o_g0.read (spV_le _ _ _ _ _) (fun j hj => spV_row _ _ _ _ _ j) (by omega) (by omega)).mono ?_
  rintro e w29 ⟨rfl, b29⟩
  have B29 := B28.trans (b29.mono B28.size)
  have S29 := b29.size
  replace o_w0 := o_w0.below b29
  replace o_t6 := o_t6.below b29
  replace o_g0 := o_g0.below b29
  replace o_h0 := o_h0.below b29
  clear b29
  have Z28 := Lib.hid B28
  clear B28 Z28
  go_wp2
  go_ret
  exact ⟨rfl, B29⟩
end Go.Proofs.Ytcjlegikodognaa
