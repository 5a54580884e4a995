/- The walk of the law FnExactKeyedTable, printed by lawgen2.py off the law's own text. -/
import Derived.Test.YtgeilnkglbcmeaaTabL
import Derived.Test.YtgeilnkglbcmeaaTabS
import Derived.Test.YtgeilnkglbcmeaaCut
import Derived.Deep.RegionHeld3
namespace Go.Proofs.Ytgeilnkglbcmeaa
open Go.RowKit

set_option maxRecDepth 100000 in
set_option maxHeartbeats 4000000 in
theorem walk_FnExactKeyedTable (A0 : Option Addr) (n0 c0 : Nat) (z0 : Nat → List Int) (a1 : Int) (A2 : Option Addr) (n2 c2 : Nat) (z2 : List (ByteArray × Int)) (A3 : Option Addr) (n3 c3 : Nat) (z3 : List RecD) (A4 : Option Addr) (n4 c4 : Nat) (z4 : List Int) (w : World) (r0 : IntsS w A0 n0 z0) (m0 : n0 ≤ maxLen) (s0 : ∀ j, j < n0 → (z0 j).length ≤ maxLen) (_w1 : (Lit.int .i64 a1).wf = true) (r2 : VarsR w A2 n2 z2) (m2 : n2 ≤ maxLen) (s2 : ∀ j, j < n2 → (vN z2 j).size ≤ maxLen) (r3 : RecsR w A3 n3 z3) (m3 : n3 ≤ maxLen) (s3 : ∀ j, j < n3 → (rV z3 j).length ≤ maxLen) (r4 : Ints w A4 n4 z4) (m4 : n4 ≤ maxLen) (_f4 : ∀ x ∈ z4, (Lit.int .i64 x).wf = true) :
    Calls Try.prog 3 #[.agg #[.slice A0 n0 c0], .int .i64 a1, .slice A2 n2 c2, .slice A3 n3 c3, .slice A4 n4 c4] w fun e w' => e = .returned (.bool true) ∧ Below w.heap.size w w' := by
  unfold maxLen at m0 s0
  unfold maxLen at m2 s2
  unfold maxLen at m3 s3
  unfold maxLen at m4
  rcases Nat.lt_or_ge 1048576 n4 with g4 | g4
  · go_enter Try.func3, Try.ntmps3
    go_wp2
    go_ret
    exact ⟨rfl, by first | exact Below.refl _ _ | exact below_new _ _⟩
  go_enter Try.func3, Try.ntmps3
  have B0 : Below w.heap.size w w := Below.refl _ _
  go_wp2_with fail
  have b1 : Below w.heap.size w (w.alloc (.cells #[.slice A0 n0 c0] 24)) := below_new _ _
  have x_p0 : (w.alloc (.cells #[.slice A0 n0 c0] 24)).heap[w.heap.size]? = some (.cells #[.slice A0 n0 c0] 24 (0, 0)) := box_new _ _ _
  generalize w.alloc (.cells #[.slice A0 n0 c0] 24) = w1 at b1 x_p0 ⊢
  have L_p0 := lt_of_block x_p0
  have B1 := B0.trans (b1.mono B0.size)
  have S1 := b1.size
  clear b1
  have Z0 := Lib.hid B0
  clear B0 Z0
  refine (szNoise_law _ n0 _ _ z0 _ (r0.below B1) s0 m0 (by omega) (by omega)).mono ?_
  rintro e w2 ⟨⟨l1, rfl, p1, q1, k1⟩, b2⟩
  have B2 := B1.trans (b2.mono B1.size)
  have S2 := b2.size
  replace x_p0 := (b2.block _ (lt_of_block x_p0)).trans x_p0
  clear b2
  have Z1 := Lib.hid B1
  clear B1 Z1
  by_cases g_1 : l1 < 0
  · go_wp2
    go_ret
    exact ⟨rfl, B2⟩
  replace k1 := k1 (by omega)
  have e1 := k1.1
  have t0 : Hid (∀ j, j < n0 → (z0 j).length ≤ 1099511627776) := Lib.hid fun j hj => by have := k1.2 j hj; omega
  have u0 : Hid (∀ j, j < n0 → (z0 j).length ≤ 1048576) := Lib.hid fun j hj => by have := k1.2 j hj; omega
  clear k1 s0 m0
  have h0 : n0 ≤ 1048576 := by omega
  have c_p0 := box_cell x_p0 0 _ rfl
  have l_p0 := lt_of_block x_p0
  go_wp2_with fail
  clear c_p0 l_p0
  refine (szVariableS_any _ n2 _ _ z2 _ (r2.below B2) s2 m2 (by omega) (by omega)).mono ?_
  rintro e w3 ⟨⟨l2, rfl, p2, q2, k2⟩, b3⟩
  have B3 := B2.trans (b3.mono B2.size)
  have S3 := b3.size
  replace x_p0 := (b3.block _ (lt_of_block x_p0)).trans x_p0
  clear b3
  have Z2 := Lib.hid B2
  clear B2 Z2
  by_cases g_2 : l2 < 0
  · go_wp2
    go_ret
    exact ⟨rfl, B3⟩
  replace k2 := k2 (by omega)
  have e2 := k2.1
  have t2 : Hid (∀ j, j < n2 → (vN z2 j).size ≤ 1099511627776) := Lib.hid fun j hj => by have := k2.2 j hj; omega
  have y2 := Lib.hid r2.1
  clear k2 s2 m2
  have h2 : n2 ≤ 1048576 := by omega
  have c_p0 := box_cell x_p0 0 _ rfl
  have l_p0 := lt_of_block x_p0
  go_wp2_with fail
  clear c_p0 l_p0
  refine (szRecordS_any _ n3 _ _ z3 _ (r3.below B3) s3 m3 (by omega) (by omega)).mono ?_
  rintro e w4 ⟨⟨l3, rfl, p3, q3, k3⟩, b4⟩
  have B4 := B3.trans (b4.mono B3.size)
  have S4 := b4.size
  replace x_p0 := (b4.block _ (lt_of_block x_p0)).trans x_p0
  clear b4
  have Z3 := Lib.hid B3
  clear B3 Z3
  by_cases g_3 : l3 < 0
  · go_wp2
    go_ret
    exact ⟨rfl, B4⟩
  replace k3 := k3 (by omega)
  have e3 := k3.1
  have t3 : Hid (∀ j, j < n3 → (rV z3 j).length ≤ 1099511627776) := Lib.hid fun j hj => by have := k3.2 j hj; omega
  have y3 := Lib.hid r3.1
  have u3 : Hid (∀ j, j < n3 → (rV z3 j).length ≤ 1048576) := Lib.hid fun j hj => by have := k3.2 j hj; omega
  clear k3 s3 m3
  have h3 : n3 ≤ 1048576 := by omega
  have c_p0 := box_cell x_p0 0 _ rfl
  have l_p0 := lt_of_block x_p0
  go_wp2_with fail
  clear c_p0 l_p0
  refine (toNoise_law _ _ _ z0 _ (r0.below B4) (by omega) t0.out).mono ?_
  rintro e w5 ⟨A_t1, c_t1, rfl, o_t1, b5⟩
  have B5 := B4.trans (b5.mono B4.size)
  have S5 := b5.size
  replace x_p0 := (b5.block _ (lt_of_block x_p0)).trans x_p0
  clear b5
  have Z4 := Lib.hid B4
  clear B4 Z4
  have c_p0 := box_cell x_p0 0 _ rfl
  have l_p0 := lt_of_block x_p0
  go_wp2_with fail
  clear c_p0 l_p0
  refine (toVariableS_law _ _ _ z2 _ (r2.below B5) (by omega)).mono ?_
  rintro e w6 ⟨A_t2, c_t2, rfl, o_t2, b6⟩
  have B6 := B5.trans (b6.mono B5.size)
  have S6 := b6.size
  replace o_t1 := o_t1.below b6
  replace x_p0 := (b6.block _ (lt_of_block x_p0)).trans x_p0
  clear b6
  have Z5 := Lib.hid B5
  clear B5 Z5
  have c_p0 := box_cell x_p0 0 _ rfl
  have l_p0 := lt_of_block x_p0
  go_wp2_with fail
  clear c_p0 l_p0
  refine (toRecordS_law _ _ _ z3 _ (r3.below B6) (by omega) t3.out).mono ?_
  rintro e w7 ⟨A_t3, c_t3, rfl, o_t3, b7⟩
  have B7 := B6.trans (b7.mono B6.size)
  have S7 := b7.size
  replace o_t1 := o_t1.below b7
  replace o_t2 := o_t2.below b7
  replace x_p0 := (b7.block _ (lt_of_block x_p0)).trans x_p0
  clear b7
  have Z6 := Lib.hid B6
  clear B6 Z6
  have c_p0 := box_cell x_p0 0 _ rfl
  have l_p0 := lt_of_block x_p0
  go_wp2_with fail
  clear c_p0 l_p0
  refine (toIntS_law _ _ _ _ _ (r4.below B7) (by omega)).mono ?_
  rintro e w8 ⟨A_t4, c_t4, rfl, o_t4, b8⟩
  have B8 := B7.trans (b8.mono B7.size)
  have S8 := b8.size
  replace o_t1 := o_t1.below b8
  replace o_t2 := o_t2.below b8
  replace o_t3 := o_t3.below b8
  replace x_p0 := (b8.block _ (lt_of_block x_p0)).trans x_p0
  clear b8
  have Z7 := Lib.hid B7
  clear B7 Z7
  have c_p0 := box_cell x_p0 0 _ rfl
  have l_p0 := lt_of_block x_p0
  go_wp2_with fail
  clear c_p0 l_p0
  refine (specKeyedTable_law a1 _ _ _ _ _ _ _ _ _ _ _ _ z0 z2 z3 z4 _ o_t1.read (by omega) t0.out (o_t2.sch t2.out) (o_t3.dat t3.out) o_t4.intR).mono ?_
  rintro e w9 ⟨A_w0, c_w0, rfl, o_w0, b9⟩
  have B9 := B8.trans (b9.mono B8.size)
  have S9 := b9.size
  replace o_t1 := o_t1.below b9
  replace o_t2 := o_t2.below b9
  replace o_t3 := o_t3.below b9
  replace o_t4 := o_t4.below b9
  replace x_p0 := (b9.block _ (lt_of_block x_p0)).trans x_p0
  clear b9
  have Z8 := Lib.hid B8
  clear B8 Z8
  clear o_t1
  clear o_t2
  clear o_t3
  clear o_t4
  have c_p0 := box_cell x_p0 0 _ rfl
  have l_p0 := lt_of_block x_p0
  go_wp2_with fail
  clear c_p0 l_p0
  refine (toNoise_law _ _ _ z0 _ (r0.below B9) (by omega) t0.out).mono ?_
  rintro e w10 ⟨A_t5, c_t5, rfl, o_t5, b10⟩
  have B10 := B9.trans (b10.mono B9.size)
  have S10 := b10.size
  replace o_w0 := o_w0.below b10
  replace x_p0 := (b10.block _ (lt_of_block x_p0)).trans x_p0
  clear b10
  have Z9 := Lib.hid B9
  clear B9 Z9
  have c_p0 := box_cell x_p0 0 _ rfl
  have l_p0 := lt_of_block x_p0
  go_wp2_with fail
  clear c_p0 l_p0
  have b11 : Below w10.heap.size w10 (w10.alloc (.cells #[.slice A_t5 n0 c_t5] 33)) := below_new _ _
  have x_bx0 : (w10.alloc (.cells #[.slice A_t5 n0 c_t5] 33)).heap[w10.heap.size]? = some (.cells #[.slice A_t5 n0 c_t5] 33 (0, 0)) := box_new _ _ _
  generalize w10.alloc (.cells #[.slice A_t5 n0 c_t5] 33) = w11 at b11 x_bx0 ⊢
  have L_bx0 := lt_of_block x_bx0
  have B11 := B10.trans (b11.mono B10.size)
  have S11 := b11.size
  replace o_w0 := o_w0.below b11
  replace o_t5 := o_t5.below b11
  replace x_p0 := (b11.block _ (lt_of_block x_p0)).trans x_p0
  clear b11
  have Z10 := Lib.hid B10
  clear B10 Z10
  refine (toVariableS_law _ _ _ z2 _ (r2.below B11) (by omega)).mono ?_
  rintro e w12 ⟨A_t6, c_t6, rfl, o_t6, b12⟩
  have B12 := B11.trans (b12.mono B11.size)
  have S12 := b12.size
  replace o_w0 := o_w0.below b12
  replace o_t5 := o_t5.below b12
  replace x_p0 := (b12.block _ (lt_of_block x_p0)).trans x_p0
  replace x_bx0 := (b12.block _ (lt_of_block x_bx0)).trans x_bx0
  clear b12
  have Z11 := Lib.hid B11
  clear B11 Z11
  have c_p0 := box_cell x_p0 0 _ rfl
  have l_p0 := lt_of_block x_p0
  have c_bx0 := box_cell x_bx0 0 _ rfl
  have l_bx0 := lt_of_block x_bx0
  go_wp2_with fail
  clear c_p0 l_p0
  clear c_bx0 l_bx0
  refine (toRecordS_law _ _ _ z3 _ (r3.below B12) (by omega) t3.out).mono ?_
  rintro e w13 ⟨A_t7, c_t7, rfl, o_t7, b13⟩
  have B13 := B12.trans (b13.mono B12.size)
  have S13 := b13.size
  replace o_w0 := o_w0.below b13
  replace o_t5 := o_t5.below b13
  replace o_t6 := o_t6.below b13
  replace x_p0 := (b13.block _ (lt_of_block x_p0)).trans x_p0
  replace x_bx0 := (b13.block _ (lt_of_block x_bx0)).trans x_bx0
  clear b13
  have Z12 := Lib.hid B12
  clear B12 Z12
  have c_p0 := box_cell x_p0 0 _ rfl
  have l_p0 := lt_of_block x_p0
  have c_bx0 := box_cell x_bx0 0 _ rfl
  have l_bx0 := lt_of_block x_bx0
  go_wp2_with fail
  clear c_p0 l_p0
  clear c_bx0 l_bx0
  refine (toIntS_law _ _ _ _ _ (r4.below B13) (by omega)).mono ?_
  rintro e w14 ⟨A_t8, c_t8, rfl, o_t8, b14⟩
  have B14 := B13.trans (b14.mono B13.size)
  have S14 := b14.size
  replace o_w0 := o_w0.below b14
  replace o_t5 := o_t5.below b14
  replace o_t6 := o_t6.below b14
  replace o_t7 := o_t7.below b14
  replace x_p0 := (b14.block _ (lt_of_block x_p0)).trans x_p0
  replace x_bx0 := (b14.block _ (lt_of_block x_bx0)).trans x_bx0
  clear b14
  have Z13 := Lib.hid B13
  clear B13 Z13
  have c_p0 := box_cell x_p0 0 _ rfl
  have l_p0 := lt_of_block x_p0
  have c_bx0 := box_cell x_bx0 0 _ rfl
  have l_bx0 := lt_of_block x_bx0
  go_wp2_with fail
  clear c_p0 l_p0
  clear c_bx0 l_bx0
  refine (implKeyedTable_law a1 _ _ _ _ _ _ _ _ _ _ _ _ z0 z2 z3 z4 _ o_t5.read (by omega) t0.out (o_t6.sch t2.out) (o_t7.dat t3.out) o_t8.intR).mono ?_
  rintro e w15 ⟨A_g0, c_g0, rfl, o_g0, b15⟩
  have B15 := B14.trans (b15.mono B14.size)
  have S15 := b15.size
  replace o_w0 := o_w0.below b15
  replace o_t5 := o_t5.below b15
  replace o_t6 := o_t6.below b15
  replace o_t7 := o_t7.below b15
  replace o_t8 := o_t8.below b15
  replace x_p0 := (b15.block _ (lt_of_block x_p0)).trans x_p0
  replace x_bx0 := (b15.block _ (lt_of_block x_bx0)).trans x_bx0
  clear b15
  have Z14 := Lib.hid B14
  clear B14 Z14
  have c_p0 := box_cell x_p0 0 _ rfl
  have l_p0 := lt_of_block x_p0
  have c_bx0 := box_cell x_bx0 0 _ rfl
  have l_bx0 := lt_of_block x_bx0
  go_wp2_with fail
  clear c_p0 l_p0
  clear c_bx0 l_bx0
  refine (eqIntS_law _ _ _ _ _ _ _ o_g0.ints o_w0.ints o_g0.small).mono ?_
  rintro e w16 ⟨rfl, b16⟩
  have B16 := B15.trans (b16.mono B15.size)
  have S16 := b16.size
  replace o_w0 := o_w0.below b16
  replace o_t5 := o_t5.below b16
  replace o_t6 := o_t6.below b16
  replace o_t7 := o_t7.below b16
  replace o_t8 := o_t8.below b16
  replace o_g0 := o_g0.below b16
  replace x_p0 := (b16.block _ (lt_of_block x_p0)).trans x_p0
  replace x_bx0 := (b16.block _ (lt_of_block x_bx0)).trans x_bx0
  clear b16
  have Z15 := Lib.hid B15
  clear B15 Z15
  have c_p0 := box_cell x_p0 0 _ rfl
  have l_p0 := lt_of_block x_p0
  have c_bx0 := box_cell x_bx0 0 _ rfl
  have l_bx0 := lt_of_block x_bx0
  go_wp2_with fail
  have B90 := (Below.refl w16.heap.size w16).drew
  have R90 : IntsS (World.drew w16) A0 n0 z0 := by have h := r0.below B16; exact h
  go_region_held3 (fun w' => w'.cell? ⟨w10.heap.size, 0, none⟩ = some (.slice A_t5 n0 c_t5) ∧ w'.cell? ⟨w.heap.size, 0, none⟩ = some (.slice A0 n0 c0)) (first | exact ⟨h2_, h3_⟩ | exact ⟨h0_, h1_⟩ | exact ⟨c_bx0, c_p0⟩ | go_keep) ((first | (go_at_call 10; refine (toNoise_law _ _ _ z0 _ (by exact R90) (by omega) t0.out).mono ?_; rintro e wI ⟨AI, cI, rfl, oI, bI⟩; have BI := keepB B90 (Nat.le_refl _) bI; have h0_ := box_cell (box_below x_bx0 BI) 0 _ rfl; have h1_ := box_cell (box_below x_p0 BI) 0 _ rfl) | (go_at_call 16; refine (eqNoise_law _ _ _ _ _ z0 _ (by exact (o_t5.below BI).read) (by exact oI.read) (by omega) t0.out).mono ?_; rintro e w17 ⟨rfl, bS⟩; have b17 := BI.trans (bS.mono BI.size); have h2_ := box_cell (box_below x_bx0 b17) 0 _ rfl; have h3_ := box_cell (box_below x_p0 b17) 0 _ rfl)))
  clear h0_ h1_ h2_ h3_ BI bI bS oI R90 B90
  clear c_p0 l_p0
  clear c_bx0 l_bx0
  have B17 := B16.trans (b17.mono B16.size)
  have S17 := b17.size
  replace o_w0 := o_w0.below b17
  replace o_t5 := o_t5.below b17
  replace o_t6 := o_t6.below b17
  replace o_t7 := o_t7.below b17
  replace o_t8 := o_t8.below b17
  replace o_g0 := o_g0.below b17
  replace x_p0 := (b17.block _ (lt_of_block x_p0)).trans x_p0
  replace x_bx0 := (b17.block _ (lt_of_block x_bx0)).trans x_bx0
  clear b17
  have Z16 := Lib.hid B16
  clear B16 Z16
  have c_p0 := box_cell x_p0 0 _ rfl
  have l_p0 := lt_of_block x_p0
  have c_bx0 := box_cell x_bx0 0 _ rfl
  have l_bx0 := lt_of_block x_bx0
  go_wp2_with fail
  clear c_p0 l_p0
  clear c_bx0 l_bx0
  refine (toVariableS_law _ _ _ z2 _ (r2.below B17) (by omega)).mono ?_
  rintro e w18 ⟨A_t9, c_t9, rfl, o_t9, b18⟩
  have B18 := B17.trans (b18.mono B17.size)
  have S18 := b18.size
  replace o_w0 := o_w0.below b18
  replace o_t5 := o_t5.below b18
  replace o_t6 := o_t6.below b18
  replace o_t7 := o_t7.below b18
  replace o_t8 := o_t8.below b18
  replace o_g0 := o_g0.below b18
  replace x_p0 := (b18.block _ (lt_of_block x_p0)).trans x_p0
  replace x_bx0 := (b18.block _ (lt_of_block x_bx0)).trans x_bx0
  clear b18
  have Z17 := Lib.hid B17
  clear B17 Z17
  have c_p0 := box_cell x_p0 0 _ rfl
  have l_p0 := lt_of_block x_p0
  have c_bx0 := box_cell x_bx0 0 _ rfl
  have l_bx0 := lt_of_block x_bx0
  go_wp2_with fail
  clear c_p0 l_p0
  clear c_bx0 l_bx0
  refine (eqVariableS_any _ _ _ _ _ z2 _ o_t6.vars o_t9.vars (by omega)).mono ?_
  rintro e w19 ⟨rfl, b19⟩
  have B19 := B18.trans (b19.mono B18.size)
  have S19 := b19.size
  replace o_w0 := o_w0.below b19
  replace o_t5 := o_t5.below b19
  replace o_t6 := o_t6.below b19
  replace o_t7 := o_t7.below b19
  replace o_t8 := o_t8.below b19
  replace o_g0 := o_g0.below b19
  replace o_t9 := o_t9.below b19
  replace x_p0 := (b19.block _ (lt_of_block x_p0)).trans x_p0
  replace x_bx0 := (b19.block _ (lt_of_block x_bx0)).trans x_bx0
  clear b19
  have Z18 := Lib.hid B18
  clear B18 Z18
  clear o_t9
  have c_p0 := box_cell x_p0 0 _ rfl
  have l_p0 := lt_of_block x_p0
  have c_bx0 := box_cell x_bx0 0 _ rfl
  have l_bx0 := lt_of_block x_bx0
  go_wp2_with fail
  clear c_p0 l_p0
  clear c_bx0 l_bx0
  refine (toRecordS_law _ _ _ z3 _ (r3.below B19) (by omega) t3.out).mono ?_
  rintro e w20 ⟨A_t10, c_t10, rfl, o_t10, b20⟩
  have B20 := B19.trans (b20.mono B19.size)
  have S20 := b20.size
  replace o_w0 := o_w0.below b20
  replace o_t5 := o_t5.below b20
  replace o_t6 := o_t6.below b20
  replace o_t7 := o_t7.below b20
  replace o_t8 := o_t8.below b20
  replace o_g0 := o_g0.below b20
  replace x_p0 := (b20.block _ (lt_of_block x_p0)).trans x_p0
  replace x_bx0 := (b20.block _ (lt_of_block x_bx0)).trans x_bx0
  clear b20
  have Z19 := Lib.hid B19
  clear B19 Z19
  have c_p0 := box_cell x_p0 0 _ rfl
  have l_p0 := lt_of_block x_p0
  have c_bx0 := box_cell x_bx0 0 _ rfl
  have l_bx0 := lt_of_block x_bx0
  go_wp2_with fail
  clear c_p0 l_p0
  clear c_bx0 l_bx0
  refine (eqRecordS_any _ _ _ _ _ z3 _ o_t7.recs o_t10.recs (by omega) t3.out).mono ?_
  rintro e w21 ⟨rfl, b21⟩
  have B21 := B20.trans (b21.mono B20.size)
  have S21 := b21.size
  replace o_w0 := o_w0.below b21
  replace o_t5 := o_t5.below b21
  replace o_t6 := o_t6.below b21
  replace o_t7 := o_t7.below b21
  replace o_t8 := o_t8.below b21
  replace o_g0 := o_g0.below b21
  replace o_t10 := o_t10.below b21
  replace x_p0 := (b21.block _ (lt_of_block x_p0)).trans x_p0
  replace x_bx0 := (b21.block _ (lt_of_block x_bx0)).trans x_bx0
  clear b21
  have Z20 := Lib.hid B20
  clear B20 Z20
  clear o_t10
  have c_p0 := box_cell x_p0 0 _ rfl
  have l_p0 := lt_of_block x_p0
  have c_bx0 := box_cell x_bx0 0 _ rfl
  have l_bx0 := lt_of_block x_bx0
  go_wp2_with fail
  clear c_p0 l_p0
  clear c_bx0 l_bx0
  refine (toIntS_law _ _ _ _ _ (r4.below B21) (by omega)).mono ?_
  rintro e w22 ⟨A_t11, c_t11, rfl, o_t11, b22⟩
  have B22 := B21.trans (b22.mono B21.size)
  have S22 := b22.size
  replace o_w0 := o_w0.below b22
  replace o_t5 := o_t5.below b22
  replace o_t6 := o_t6.below b22
  replace o_t7 := o_t7.below b22
  replace o_t8 := o_t8.below b22
  replace o_g0 := o_g0.below b22
  replace x_p0 := (b22.block _ (lt_of_block x_p0)).trans x_p0
  replace x_bx0 := (b22.block _ (lt_of_block x_bx0)).trans x_bx0
  clear b22
  have Z21 := Lib.hid B21
  clear B21 Z21
  have c_p0 := box_cell x_p0 0 _ rfl
  have l_p0 := lt_of_block x_p0
  have c_bx0 := box_cell x_bx0 0 _ rfl
  have l_bx0 := lt_of_block x_bx0
  go_wp2_with fail
  clear c_p0 l_p0
  clear c_bx0 l_bx0
  refine (eqIntS_law _ _ _ _ _ _ _ o_t8.ints o_t11.ints o_t8.small).mono ?_
  rintro e w23 ⟨rfl, b23⟩
  have B23 := B22.trans (b23.mono B22.size)
  have S23 := b23.size
  replace o_w0 := o_w0.below b23
  replace o_t5 := o_t5.below b23
  replace o_t6 := o_t6.below b23
  replace o_t7 := o_t7.below b23
  replace o_t8 := o_t8.below b23
  replace o_g0 := o_g0.below b23
  replace o_t11 := o_t11.below b23
  replace x_p0 := (b23.block _ (lt_of_block x_p0)).trans x_p0
  replace x_bx0 := (b23.block _ (lt_of_block x_bx0)).trans x_bx0
  clear b23
  have Z22 := Lib.hid B22
  clear B22 Z22
  clear o_t11
  have c_p0 := box_cell x_p0 0 _ rfl
  have l_p0 := lt_of_block x_p0
  have c_bx0 := box_cell x_bx0 0 _ rfl
  have l_bx0 := lt_of_block x_bx0
  go_wp2_with fail
  clear c_p0 l_p0
  clear c_bx0 l_bx0
  have p_t5 := o_t5
  clear o_t5
  have s_w0 := o_w0.small
  have s_t8 := o_t8.small
  have s_g0 := o_g0.small
  refine (markNoise_law _ _ _ _ _ _ z0 _ p_t5 (by omega) u0.out (by omega) (by omega)).mono ?_
  rintro e w24 ⟨⟨v0, rfl, va0, vb0⟩, b24⟩
  have B24 := b24.below B23 (by omega) B23.size
  have S24 := b24.size
  replace o_w0 := o_w0.chg b24 (by omega)
  replace o_t6 := o_t6.chg b24 (by omega)
  replace o_t7 := o_t7.chg b24 (by omega)
  replace o_t8 := o_t8.chg b24 (by omega)
  replace o_g0 := o_g0.chg b24 (by omega)
  replace x_p0 := (b24.block _ (lt_of_block x_p0) (by omega)).trans x_p0
  replace x_bx0 := (b24.block _ (lt_of_block x_bx0) (by omega)).trans x_bx0
  clear b24
  have Z23 := Lib.hid B23
  clear B23 Z23
  clear p_t5
  have c_p0 := box_cell x_p0 0 _ rfl
  have l_p0 := lt_of_block x_p0
  have c_bx0 := box_cell x_bx0 0 _ rfl
  have l_bx0 := lt_of_block x_bx0
  go_wp2_with fail
  clear c_p0 l_p0
  clear c_bx0 l_bx0
  have p_t6 := o_t6
  clear o_t6
  refine (markVariableS_law _ _ _ _ _ _ z2 _ p_t6 (by omega) (by omega)).mono ?_
  rintro e w25 ⟨rfl, b25⟩
  have B25 := b25.below B24 (by omega) B24.size
  have S25 := b25.size
  replace o_w0 := o_w0.chg b25 (by omega)
  replace o_t7 := o_t7.chg b25 (by omega)
  replace o_t8 := o_t8.chg b25 (by omega)
  replace o_g0 := o_g0.chg b25 (by omega)
  replace x_p0 := (b25.block _ (lt_of_block x_p0) (by omega)).trans x_p0
  replace x_bx0 := (b25.block _ (lt_of_block x_bx0) (by omega)).trans x_bx0
  clear b25
  have Z24 := Lib.hid B24
  clear B24 Z24
  clear p_t6
  have c_p0 := box_cell x_p0 0 _ rfl
  have l_p0 := lt_of_block x_p0
  have c_bx0 := box_cell x_bx0 0 _ rfl
  have l_bx0 := lt_of_block x_bx0
  go_wp2_with fail
  clear c_p0 l_p0
  clear c_bx0 l_bx0
  have p_t7 := o_t7
  clear o_t7
  refine (markRecordS_law _ _ _ _ _ _ z3 _ p_t7 (by omega) u3.out (by omega) (by omega)).mono ?_
  rintro e w26 ⟨⟨v3, rfl, va3, vb3⟩, b26⟩
  have B26 := b26.below B25 (by omega) B25.size
  have S26 := b26.size
  replace o_w0 := o_w0.chg b26 (by omega)
  replace o_t8 := o_t8.chg b26 (by omega)
  replace o_g0 := o_g0.chg b26 (by omega)
  replace x_p0 := (b26.block _ (lt_of_block x_p0) (by omega)).trans x_p0
  replace x_bx0 := (b26.block _ (lt_of_block x_bx0) (by omega)).trans x_bx0
  clear b26
  have Z25 := Lib.hid B25
  clear B25 Z25
  clear p_t7
  have c_p0 := box_cell x_p0 0 _ rfl
  have l_p0 := lt_of_block x_p0
  have c_bx0 := box_cell x_bx0 0 _ rfl
  have l_bx0 := lt_of_block x_bx0
  go_wp2_with fail
  clear c_p0 l_p0
  clear c_bx0 l_bx0
  have p_t8 := o_t8
  clear o_t8
  have sx_t8 := p_t8.small
  refine (markIntS_law _ _ _ _ _ _ _ _ p_t8 (by omega) (by omega)).mono ?_
  rintro e w27 ⟨rfl, o_t8, b27⟩
  have B27 := b27.below B26 (by omega) B26.size
  have S27 := b27.size
  replace o_w0 := o_w0.chg b27 (by omega)
  replace o_g0 := o_g0.chg b27 (by omega)
  replace x_p0 := (b27.block _ (lt_of_block x_p0) (by omega)).trans x_p0
  replace x_bx0 := (b27.block _ (lt_of_block x_bx0) (by omega)).trans x_bx0
  clear b27
  have Z26 := Lib.hid B26
  clear B26 Z26
  clear p_t8
  have c_p0 := box_cell x_p0 0 _ rfl
  have l_p0 := lt_of_block x_p0
  have c_bx0 := box_cell x_bx0 0 _ rfl
  have l_bx0 := lt_of_block x_bx0
  go_wp2_with fail
  clear c_p0 l_p0
  clear c_bx0 l_bx0
  refine (eqIntS_law _ _ _ _ _ _ _ o_g0.ints o_w0.ints o_g0.small).mono ?_
  rintro e w28 ⟨rfl, b28⟩
  have B28 := B27.trans (b28.mono B27.size)
  have S28 := b28.size
  replace o_w0 := o_w0.below b28
  replace o_t8 := o_t8.below b28
  replace o_g0 := o_g0.below b28
  replace x_p0 := (b28.block _ (lt_of_block x_p0)).trans x_p0
  replace x_bx0 := (b28.block _ (lt_of_block x_bx0)).trans x_bx0
  clear b28
  have Z27 := Lib.hid B27
  clear B27 Z27
  have c_p0 := box_cell x_p0 0 _ rfl
  have l_p0 := lt_of_block x_p0
  have c_bx0 := box_cell x_bx0 0 _ rfl
  have l_bx0 := lt_of_block x_bx0
  go_wp2_with fail
  clear c_p0 l_p0
  clear c_bx0 l_bx0
  have p_g0 := o_g0
  clear o_g0
  have sx_g0 := p_g0.small
  refine (markIntS_law _ _ _ _ _ _ _ _ p_g0 (by omega) (by omega)).mono ?_
  rintro e w29 ⟨rfl, o_g0, b29⟩
  have B29 := b29.below B28 (by omega) B28.size
  have S29 := b29.size
  replace o_w0 := o_w0.chg b29 (by omega)
  replace o_t8 := o_t8.chg b29 (by omega)
  replace x_p0 := (b29.block _ (lt_of_block x_p0) (by omega)).trans x_p0
  replace x_bx0 := (b29.block _ (lt_of_block x_bx0) (by omega)).trans x_bx0
  clear b29
  have Z28 := Lib.hid B28
  clear B28 Z28
  clear p_g0
  have c_p0 := box_cell x_p0 0 _ rfl
  have l_p0 := lt_of_block x_p0
  have c_bx0 := box_cell x_bx0 0 _ rfl
  have l_bx0 := lt_of_block x_bx0
  go_wp2_with fail
  clear c_p0 l_p0
  clear c_bx0 l_bx0
  refine (heldIntS_law _ _ _ _ _ o_g0.ints o_g0.small (by omega) (by omega)).mono ?_
  rintro e w30 ⟨rfl, b30⟩
  have B30 := B29.trans (b30.mono B29.size)
  have S30 := b30.size
  replace o_w0 := o_w0.below b30
  replace o_t8 := o_t8.below b30
  replace o_g0 := o_g0.below b30
  replace x_p0 := (b30.block _ (lt_of_block x_p0)).trans x_p0
  replace x_bx0 := (b30.block _ (lt_of_block x_bx0)).trans x_bx0
  clear b30
  have Z29 := Lib.hid B29
  clear B29 Z29
  have c_p0 := box_cell x_p0 0 _ rfl
  have l_p0 := lt_of_block x_p0
  have c_bx0 := box_cell x_bx0 0 _ rfl
  have l_bx0 := lt_of_block x_bx0
  go_wp2_with fail
  clear c_p0 l_p0
  clear c_bx0 l_bx0
  refine (toNoise_law _ _ _ z0 _ (r0.below B30) (by omega) t0.out).mono ?_
  rintro e w31 ⟨A_t12, c_t12, rfl, o_t12, b31⟩
  have B31 := B30.trans (b31.mono B30.size)
  have S31 := b31.size
  replace o_w0 := o_w0.below b31
  replace o_t8 := o_t8.below b31
  replace o_g0 := o_g0.below b31
  replace x_p0 := (b31.block _ (lt_of_block x_p0)).trans x_p0
  replace x_bx0 := (b31.block _ (lt_of_block x_bx0)).trans x_bx0
  clear b31
  have Z30 := Lib.hid B30
  clear B30 Z30
  have c_p0 := box_cell x_p0 0 _ rfl
  have l_p0 := lt_of_block x_p0
  have c_bx0 := box_cell x_bx0 0 _ rfl
  have l_bx0 := lt_of_block x_bx0
  go_wp2_with fail
  clear c_p0 l_p0
  clear c_bx0 l_bx0
  refine (toVariableS_law _ _ _ z2 _ (r2.below B31) (by omega)).mono ?_
  rintro e w32 ⟨A_t13, c_t13, rfl, o_t13, b32⟩
  have B32 := B31.trans (b32.mono B31.size)
  have S32 := b32.size
  replace o_w0 := o_w0.below b32
  replace o_t8 := o_t8.below b32
  replace o_g0 := o_g0.below b32
  replace o_t12 := o_t12.below b32
  replace x_p0 := (b32.block _ (lt_of_block x_p0)).trans x_p0
  replace x_bx0 := (b32.block _ (lt_of_block x_bx0)).trans x_bx0
  clear b32
  have Z31 := Lib.hid B31
  clear B31 Z31
  have c_p0 := box_cell x_p0 0 _ rfl
  have l_p0 := lt_of_block x_p0
  have c_bx0 := box_cell x_bx0 0 _ rfl
  have l_bx0 := lt_of_block x_bx0
  go_wp2_with fail
  clear c_p0 l_p0
  clear c_bx0 l_bx0
  refine (toRecordS_law _ _ _ z3 _ (r3.below B32) (by omega) t3.out).mono ?_
  rintro e w33 ⟨A_t14, c_t14, rfl, o_t14, b33⟩
  have B33 := B32.trans (b33.mono B32.size)
  have S33 := b33.size
  replace o_w0 := o_w0.below b33
  replace o_t8 := o_t8.below b33
  replace o_g0 := o_g0.below b33
  replace o_t12 := o_t12.below b33
  replace o_t13 := o_t13.below b33
  replace x_p0 := (b33.block _ (lt_of_block x_p0)).trans x_p0
  replace x_bx0 := (b33.block _ (lt_of_block x_bx0)).trans x_bx0
  clear b33
  have Z32 := Lib.hid B32
  clear B32 Z32
  have c_p0 := box_cell x_p0 0 _ rfl
  have l_p0 := lt_of_block x_p0
  have c_bx0 := box_cell x_bx0 0 _ rfl
  have l_bx0 := lt_of_block x_bx0
  go_wp2_with fail
  clear c_p0 l_p0
  clear c_bx0 l_bx0
  refine (toIntS_law _ _ _ _ _ (r4.below B33) (by omega)).mono ?_
  rintro e w34 ⟨A_t15, c_t15, rfl, o_t15, b34⟩
  have B34 := B33.trans (b34.mono B33.size)
  have S34 := b34.size
  replace o_w0 := o_w0.below b34
  replace o_t8 := o_t8.below b34
  replace o_g0 := o_g0.below b34
  replace o_t12 := o_t12.below b34
  replace o_t13 := o_t13.below b34
  replace o_t14 := o_t14.below b34
  replace x_p0 := (b34.block _ (lt_of_block x_p0)).trans x_p0
  replace x_bx0 := (b34.block _ (lt_of_block x_bx0)).trans x_bx0
  clear b34
  have Z33 := Lib.hid B33
  clear B33 Z33
  have c_p0 := box_cell x_p0 0 _ rfl
  have l_p0 := lt_of_block x_p0
  have c_bx0 := box_cell x_bx0 0 _ rfl
  have l_bx0 := lt_of_block x_bx0
  go_wp2_with fail
  clear c_p0 l_p0
  clear c_bx0 l_bx0
  refine (implKeyedTable_law a1 _ _ _ _ _ _ _ _ _ _ _ _ z0 z2 z3 z4 _ o_t12.read (by omega) t0.out (o_t13.sch t2.out) (o_t14.dat t3.out) o_t15.intR).mono ?_
  rintro e w35 ⟨A_h0, c_h0, rfl, o_h0, b35⟩
  have B35 := B34.trans (b35.mono B34.size)
  have S35 := b35.size
  replace o_w0 := o_w0.below b35
  replace o_t8 := o_t8.below b35
  replace o_g0 := o_g0.below b35
  replace o_t12 := o_t12.below b35
  replace o_t13 := o_t13.below b35
  replace o_t14 := o_t14.below b35
  replace o_t15 := o_t15.below b35
  replace x_p0 := (b35.block _ (lt_of_block x_p0)).trans x_p0
  replace x_bx0 := (b35.block _ (lt_of_block x_bx0)).trans x_bx0
  clear b35
  have Z34 := Lib.hid B34
  clear B34 Z34
  clear o_t12
  clear o_t13
  clear o_t14
  clear o_t15
  have c_p0 := box_cell x_p0 0 _ rfl
  have l_p0 := lt_of_block x_p0
  have c_bx0 := box_cell x_bx0 0 _ rfl
  have l_bx0 := lt_of_block x_bx0
  go_wp2_with fail
  clear c_p0 l_p0
  clear c_bx0 l_bx0
  refine (eqIntS_law _ _ _ _ _ _ _ o_h0.ints o_w0.ints o_h0.small).mono ?_
  rintro e w36 ⟨rfl, b36⟩
  have B36 := B35.trans (b36.mono B35.size)
  have S36 := b36.size
  replace o_w0 := o_w0.below b36
  replace o_t8 := o_t8.below b36
  replace o_g0 := o_g0.below b36
  replace o_h0 := o_h0.below b36
  replace x_p0 := (b36.block _ (lt_of_block x_p0)).trans x_p0
  replace x_bx0 := (b36.block _ (lt_of_block x_bx0)).trans x_bx0
  clear b36
  have Z35 := Lib.hid B35
  clear B35 Z35
  have c_p0 := box_cell x_p0 0 _ rfl
  have l_p0 := lt_of_block x_p0
  have c_bx0 := box_cell x_bx0 0 _ rfl
  have l_bx0 := lt_of_block x_bx0
  go_wp2_with fail
  clear c_p0 l_p0
  clear c_bx0 l_bx0
  refine (heldIntS_law _ _ _ _ _ o_g0.ints o_g0.small (by omega) (by omega)).mono ?_
  rintro e w37 ⟨rfl, b37⟩
  have B37 := B36.trans (b37.mono B36.size)
  have S37 := b37.size
  replace o_w0 := o_w0.below b37
  replace o_t8 := o_t8.below b37
  replace o_g0 := o_g0.below b37
  replace o_h0 := o_h0.below b37
  replace x_p0 := (b37.block _ (lt_of_block x_p0)).trans x_p0
  replace x_bx0 := (b37.block _ (lt_of_block x_bx0)).trans x_bx0
  clear b37
  have Z36 := Lib.hid B36
  clear B36 Z36
  have c_p0 := box_cell x_p0 0 _ rfl
  have l_p0 := lt_of_block x_p0
  have c_bx0 := box_cell x_bx0 0 _ rfl
  have l_bx0 := lt_of_block x_bx0
  go_wp2
  go_ret
  exact ⟨rfl, B37⟩
end Go.Proofs.Ytgeilnkglbcmeaa
